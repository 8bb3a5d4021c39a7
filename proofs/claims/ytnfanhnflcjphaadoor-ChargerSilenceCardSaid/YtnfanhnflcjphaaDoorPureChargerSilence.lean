/- After a reset a charger lets nothing through, and after its lease at most its fallback, said of the printed functions. No conditions. -/
import Derived.Test.YtnfanhnflcjphaaDoorPAllx13
import Derived.Test.YtnfanhnflcjphaaDoorChargerPlain
namespace Go.Proofs.YtnfanhnflcjphaaDoor.Pure
open Go.RowKit Go.Proofs.YtnfanhnflcjphaaDoor.PAll Go.Proofs.YtnfanhnflcjphaaDoorW.PrintWords Go.Proofs.YtnfanhnflcjphaaDoorW.PrintLast Go.Proofs.YtnfanhnflcjphaaDoorW.PrintMore Go.Proofs.YtnfanhnflcjphaaDoor.Plain

theorem tick_step {c2 c3 c4 c5 c6 ph am lf : Int} {we : Bool} (h : sB c2 c3 c4 c5 c6 ph am lf we = true) : ∃ ph' am' we', stp c2 c3 c4 c5 c6 ph am lf we 8 0 0 = (ph', am', (if 0 < lf then lf - 1 else 0), we', 0) ∧ sB c2 c3 c4 c5 c6 ph' am' (if 0 < lf then lf - 1 else 0) we' = true ∧ (we = false → we' = false) := by
  obtain ⟨_, o⟩ := sB_true h
  have l0 := o.l0; have p0 := o.p0
  rcases stp_cases h 8 0 0 with (⟨_, e⟩ | ⟨_, _, e⟩ | ⟨_, _, _, e⟩) | ⟨ph', am', lf', we', e, hv, hk9, hf, ht, hw⟩
  · omega
  · simp [fB] at e
  · simp [Hand.stepT] at e; omega
  · unfold Hand.stepW at hw
    rw [if_neg (by decide), if_pos rfl] at hw
    have hl : lf' = (if 0 < lf then lf - 1 else 0) := by
      by_cases q : 1 < lf
      · rw [if_pos q, Prod.mk.injEq, Prod.mk.injEq, Prod.mk.injEq] at hw
        rw [hw.2.2.1, if_pos (by omega)]
      · rw [if_neg q, Prod.mk.injEq, Prod.mk.injEq, Prod.mk.injEq] at hw
        rw [hw.2.2.1]; split <;> omega
    have hwe : we' = we := by
      split at hw <;> (rw [Prod.mk.injEq, Prod.mk.injEq, Prod.mk.injEq] at hw; exact hw.2.2.2)
    rw [hl] at e hv
    exact ⟨ph', am', we', e, hv, fun q => hwe.trans q⟩

theorem tick_loop (c0 : ByteArray) (c1 c2 c3 c4 c5 c6 c7 : Int) (n : Int) (hn : n ≤ 300) (d : Nat) : ∀ (k : Nat) (i ph am lf : Int) (we : Bool),
    sB c2 c3 c4 c5 c6 ph am lf we = true → we = false → n - i ≤ d → d < k → 0 ≤ i → i ≤ n → lf = n - i →
    chargeparklaw12_ChargerSilence.l0 k true n i c0 c1 c2 c3 c4 c5 c6 c7 ph am lf we = some true := by
  have done : ∀ (k : Nat) (i ph am lf : Int) (we : Bool), sB c2 c3 c4 c5 c6 ph am lf we = true → we = false → i = n → lf = n - i → chargeparklaw12_ChargerSilence.l0 (k + 1) true n i c0 c1 c2 c3 c4 c5 c6 c7 ph am lf we = some true := by
    intro k i ph am lf we h hw hi hl
    rw [chargeparklaw12_ChargerSilence.l0, if_neg (by omega), if_pos rfl, allowed_eq _ _ _ h]
    simp only [Option.bind_some]
    congr 1
    obtain ⟨hc, o⟩ := sB_true h
    have hc := of_decide_eq_true hc
    refine decide_eq_true ?_
    unfold alw
    rw [hw, if_neg (by decide)]
    split
    · rw [if_neg (by omega)]; omega
    · omega
  induction d with
  | zero =>
    intro k i ph am lf we h hw hd hk hi hi2 hl
    obtain ⟨k, rfl⟩ : ∃ m, k = m + 1 := ⟨k - 1, by omega⟩
    exact done k i ph am lf we h hw (by omega) hl
  | succ d ih =>
    intro k i ph am lf we h hw hd hk hi hi2 hl
    obtain ⟨k, rfl⟩ : ∃ m, k = m + 1 := ⟨k - 1, by omega⟩
    by_cases hlt : i < n
    · obtain ⟨ph', am', we', e, hv, hwe⟩ := tick_step h
      rw [if_pos (by omega)] at e hv
      rw [chargeparklaw12_ChargerSilence.l0, if_pos hlt, step_eq, e]
      simp only [Option.bind_some, if_true]
      rw [w_id (n - 1) (by omega) (by omega), w_id (n - 1 - i) (by omega) (by omega), if_pos (by omega), w_id (i + 1) (by omega) (by omega)]
      exact ih k (i + 1) ph' am' (lf - 1) we' hv (hwe hw) (by omega) (by omega) (by omega) (by omega) (by omega)
    · exact done k i ph am lf we h hw (by omega) hl

theorem ChargerSilence (a0_0 : ByteArray) (a0_1 a0_2 a0_3 a0_4 a0_5 a0_6 a0_7 a1_0 a1_1 a1_2 : Int) (a1_3 : Bool) (_ : (Lit.int .i64 a0_1).wf = true) (_ : (Lit.int .i64 a0_2).wf = true) (_ : (Lit.int .i64 a0_3).wf = true) (_ : (Lit.int .i64 a0_4).wf = true) (_ : (Lit.int .i64 a0_5).wf = true) (_ : (Lit.int .i64 a0_6).wf = true) (_ : (Lit.int .i64 a0_7).wf = true) (_ : (Lit.int .i64 a1_0).wf = true) (_ : (Lit.int .i64 a1_1).wf = true) (_ : (Lit.int .i64 a1_2).wf = true) :
    ∃ k, chargeparklaw12_ChargerSilence.f k a0_0 a0_1 a0_2 a0_3 a0_4 a0_5 a0_6 a0_7 a1_0 a1_1 a1_2 a1_3 = some true := by
  refine ⟨400, ?_⟩
  unfold chargeparklaw12_ChargerSilence.f chargeparklaw12_head_c.f
  rw [ref_valid a0_0 a0_1 a0_2 a0_3 a0_4 a0_5 a0_6 a0_7 a1_0 a1_1 a1_2 a1_3 399]
  simp only [Option.bind_some]
  by_cases h : sB a0_2 a0_3 a0_4 a0_5 a0_6 a1_0 a1_1 a1_2 a1_3 = true
  · rw [if_pos h]
    cases a1_3
    · rw [if_neg (by decide)]
      by_cases d1 : a1_2 > 300
      · rw [decide_eq_true d1]; simp [chargeparklaw12_ChargerSilence.j0]
      rw [decide_eq_false d1, chargeparklaw12_ChargerSilence.j0, if_neg (by simp), step_eq]
      obtain ⟨hc, o⟩ := sB_true h
      have p0 := o.p0; have p1 := o.p1; have l0 := o.l0
      simp only [Option.bind_some]
      -- the reset
      obtain ⟨ph', e, hv, h4⟩ : ∃ ph', stp a0_2 a0_3 a0_4 a0_5 a0_6 a1_0 a1_1 a1_2 false 9 0 0 = (ph', 0, 0, false, 0) ∧ sB a0_2 a0_3 a0_4 a0_5 a0_6 ph' 0 0 false = true ∧ ph' ≠ 4 := by
        rcases stp_cases h 9 0 0 with (⟨_, e⟩ | ⟨_, _, e⟩ | ⟨_, _, _, e⟩) | ⟨ph', am', lf', we', e, hv, hk9, hf, ht, hw⟩
        · omega
        · simp [fB] at e
        · exfalso; simp [Hand.stepT] at e; split at e <;> omega
        · unfold Hand.stepW at hw
          rw [if_neg (by decide), if_neg (by decide), if_pos rfl, if_neg (by decide), Prod.mk.injEq, Prod.mk.injEq, Prod.mk.injEq] at hw
          obtain ⟨h1, h2, h3, h4⟩ := hw
          subst h2; subst h3; subst h4
          refine ⟨ph', e, hv, ?_⟩
          rw [h1]; simp [Hand.stepT]; split <;> omega
      rw [e]
      simp only [if_true]
      rw [if_neg h4, allowed_eq _ _ _ hv]
      simp only [Option.bind_some]
      have ha : alw a0_4 a0_6 ph' 0 0 false = 0 := by unfold alw; rw [if_neg (by decide), if_neg h4]
      rw [ha, beq_self_eq_true, chargeparklaw12_ChargerSilence.j1]
      exact tick_loop a0_0 a0_1 a0_2 a0_3 a0_4 a0_5 a0_6 a0_7 a1_2 (by omega) 300 398 0 a1_0 a1_1 a1_2 false h rfl (by omega) (by omega) (by omega) (by omega) (by omega)
    · rw [if_pos rfl]; simp [chargeparklaw12_ChargerSilence.j0]
  · rw [if_neg h]; simp [chargeparklaw12_ChargerSilence.j0]
end Go.Proofs.YtnfanhnflcjphaaDoor.Pure
