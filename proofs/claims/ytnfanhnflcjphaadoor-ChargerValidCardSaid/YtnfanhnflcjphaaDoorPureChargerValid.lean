/- After every event the state of a charger is valid, or the event was refused, said of the printed functions. No conditions. -/
import Derived.Test.YtnfanhnflcjphaaDoorPAllx13
import Derived.Test.YtnfanhnflcjphaaDoorChargerPlain
namespace Go.Proofs.YtnfanhnflcjphaaDoor.Pure
open Go.RowKit Go.Proofs.YtnfanhnflcjphaaDoor.PAll Go.Proofs.YtnfanhnflcjphaaDoorW.PrintWords Go.Proofs.YtnfanhnflcjphaaDoorW.PrintLast Go.Proofs.YtnfanhnflcjphaaDoorW.PrintMore Go.Proofs.YtnfanhnflcjphaaDoor.Plain

theorem alw_in {c2 c3 c4 c5 c6 ph am lf : Int} {we : Bool} (h : sB c2 c3 c4 c5 c6 ph am lf we = true) : 0 ≤ alw c4 c6 ph am lf we ∧ alw c4 c6 ph am lf we ≤ c4 := by
  obtain ⟨hc, o⟩ := sB_true h
  have hc := of_decide_eq_true hc
  obtain ⟨p0, p1, l0, l1, a0, a1, z, f⟩ := o
  unfold alw
  repeat' split
  all_goals omega

/-- A tick, a reset and a lease within the bounds are accepted. -/
theorem not_refused {c2 c3 c4 c5 c6 ph am lf : Int} {we : Bool} (h : sB c2 c3 c4 c5 c6 ph am lf we = true) {k n m : Int} (hk : k = 8 ∨ k = 9 ∨ k = 7 ∧ 0 ≤ n ∧ n ≤ c4 ∧ 1 ≤ m ∧ m ≤ 1000000) :
    ∃ ph' am' lf' we', stp c2 c3 c4 c5 c6 ph am lf we k n m = (ph', am', lf', we', 0) ∧ sB c2 c3 c4 c5 c6 ph' am' lf' we' = true := by
  obtain ⟨hc, o⟩ := sB_true h
  rcases stp_cases h k n m with (⟨e, q⟩ | ⟨e, _, q⟩ | ⟨e, _, _, q⟩) | ⟨ph', am', lf', we', e, hv, _⟩
  · omega
  · have q := of_decide_eq_false q
    omega
  · exfalso
    have := o.p0
    unfold Hand.stepT at q
    rcases hk with rfl | rfl | ⟨rfl, _⟩
    · simp at q; omega
    · simp at q; split at q <;> omega
    · simp at q; omega
  · exact ⟨ph', am', lf', we', e, hv⟩

theorem ChargerValid (a0_0 : ByteArray) (a0_1 a0_2 a0_3 a0_4 a0_5 a0_6 a0_7 a1_0 a1_1 a1_2 : Int) (a1_3 : Bool) (a2_0 a2_1 a2_2 : Int) (_ : (Lit.int .i64 a0_1).wf = true) (_ : (Lit.int .i64 a0_2).wf = true) (_ : (Lit.int .i64 a0_3).wf = true) (_ : (Lit.int .i64 a0_4).wf = true) (_ : (Lit.int .i64 a0_5).wf = true) (_ : (Lit.int .i64 a0_6).wf = true) (_ : (Lit.int .i64 a0_7).wf = true) (_ : (Lit.int .i64 a1_0).wf = true) (_ : (Lit.int .i64 a1_1).wf = true) (_ : (Lit.int .i64 a1_2).wf = true) (_ : (Lit.int .i64 a2_0).wf = true) (_ : (Lit.int .i64 a2_1).wf = true) (_ : (Lit.int .i64 a2_2).wf = true) :
    ∃ k, chargeparklaw12_ChargerValid.f k a0_0 a0_1 a0_2 a0_3 a0_4 a0_5 a0_6 a0_7 a1_0 a1_1 a1_2 a1_3 a2_0 a2_1 a2_2 = some true := by
  refine ⟨5, ?_⟩
  unfold chargeparklaw12_ChargerValid.f chargeparklaw12_head_c.f
  rw [ref_valid a0_0 a0_1 a0_2 a0_3 a0_4 a0_5 a0_6 a0_7 a1_0 a1_1 a1_2 a1_3 4]
  simp only [Option.bind_some]
  by_cases h : sB a0_2 a0_3 a0_4 a0_5 a0_6 a1_0 a1_1 a1_2 a1_3 = true
  case neg => rw [if_neg h]
  rw [if_pos h, step_eq, allowed_eq _ _ _ h]
  simp only [Option.bind_some]
  obtain ⟨b0, b1⟩ := alw_in h
  rw [ref_valid _ _ _ _ _ _ _ _ _ _ _ _ 4]
  simp only [Option.bind_some]
  rw [if_pos b0, if_pos b1]
  -- what is left, where the event was refused
  have ref : ∀ (er : Int), er ≠ 0 → stp a0_2 a0_3 a0_4 a0_5 a0_6 a1_0 a1_1 a1_2 a1_3 a2_0 a2_1 a2_2 = (0, 0, 0, false, er) →
      chargeparklaw12_ChargerValid.j0 5 true er a0_0 a0_1 a0_2 a0_3 a0_4 a0_5 a0_6 a0_7 a2_0 a2_1 a2_2 = some true := by
    intro er hn he
    have no : ¬ (a2_0 = 8 ∨ a2_0 = 9 ∨ a2_0 = 7 ∧ 0 ≤ a2_1 ∧ a2_1 ≤ a0_4 ∧ 1 ≤ a2_2 ∧ a2_2 ≤ 1000000) := by
      intro hk
      obtain ⟨ph', am', lf', we', e, _⟩ := not_refused h hk
      rw [he] at e
      simp only [Prod.mk.injEq] at e
      exact hn e.2.2.2.2
    have fin : ∀ (b : Bool), b = false → chargeparklaw12_ChargerValid.j1 4 true er b a2_0 a2_1 a2_2 = some true := by
      intro b hb
      rw [chargeparklaw12_ChargerValid.j1, if_pos rfl, if_neg hn, if_neg (by omega), if_neg (by omega), hb]; rfl
    rw [chargeparklaw12_ChargerValid.j0]
    by_cases k7 : a2_0 = 7
    · rw [if_pos k7]
      by_cases q1 : a2_1 ≥ 0
      · rw [if_pos q1]
        by_cases q2 : a2_1 ≤ a0_4
        · rw [if_pos q2]
          by_cases q3 : a2_2 ≥ 1
          · rw [if_pos q3]; exact fin _ (decide_eq_false (by omega))
          · rw [if_neg q3]; exact fin _ rfl
        · rw [if_neg q2]; exact fin _ rfl
      · rw [if_neg q1]; exact fin _ rfl
    · rw [if_neg k7]; exact fin _ rfl
  rcases stp_cases h a2_0 a2_1 a2_2 with (⟨e, _⟩ | ⟨e, _⟩ | ⟨e, _⟩) | ⟨ph', am', lf', we', e, hv, _⟩
  · have r := ref _ (by decide) e
    rw [e, if_neg (by decide)]; exact r
  · have r := ref _ (by decide) e
    rw [e, if_neg (by decide)]; exact r
  · have r := ref _ (by decide) e
    rw [e, if_neg (by decide)]; exact r
  · rw [e]
    simp only [if_true]
    rw [if_pos hv, chargeparklaw12_ChargerValid.j0]
    simp only [chargeparklaw12_ChargerValid.j1, if_true]
    repeat' split
    all_goals rfl
end Go.Proofs.YtnfanhnflcjphaaDoor.Pure
