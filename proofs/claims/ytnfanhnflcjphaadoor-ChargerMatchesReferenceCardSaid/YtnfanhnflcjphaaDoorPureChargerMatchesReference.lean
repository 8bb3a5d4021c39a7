/- The functions of a charger return what the reference returns, said of the printed functions. No conditions. -/
import Derived.Test.YtnfanhnflcjphaaDoorPAllx10
import Derived.Test.YtnfanhnflcjphaaDoorChargerPlain
namespace Go.Proofs.YtnfanhnflcjphaaDoor.Pure
open Go.RowKit Go.Proofs.YtnfanhnflcjphaaDoor.PAll Go.Proofs.YtnfanhnflcjphaaDoorW.PrintWords Go.Proofs.YtnfanhnflcjphaaDoorW.PrintLast Go.Proofs.YtnfanhnflcjphaaDoorW.PrintMore Go.Proofs.YtnfanhnflcjphaaDoor.Plain

/-- The phase after an event, by the reference; -1: it is not possible. -/
def phV (ph : Int) (we : Bool) (k n : Int) : Int :=
  if k = 1 then (if ph = 0 then 1 else -1) else if k = 2 then (if ph = 5 then (if we = true then 5 else 0) else if ph = 1 then 0 else -1)
  else if k = 3 then (if ph = 1 then 2 else -1) else if k = 4 then (if ph = 2 then (if n = 1 then 3 else 5) else -1) else if k = 5 then (if ph = 3 then 4 else -1)
  else if k = 6 then (if ph = 4 then (if n = 0 then 1 else 5) else -1) else if k = 9 then (if ph = 0 then ph else if we = true then ph else 1) else ph

theorem ref_phase (ph am lf : Int) (we : Bool) (k n m : Int) (K : Nat) : chargeparkref12_phase.f (K + 1) ph am lf we k n m = some (phV ph we k n) := by
  unfold chargeparkref12_phase.f phV
  simp only [chargeparkref12_phase.j0]
  repeat' split
  all_goals first | rfl | (exfalso; omega) | (simp_all; done)

theorem ref_fits (c0 : ByteArray) (c1 c2 c3 c4 c5 c6 c7 k n m : Int) : chargeparkref12_Fits.f c0 c1 c2 c3 c4 c5 c6 c7 k n m = some (fB c4 k n m) := by
  unfold chargeparkref12_Fits.f fB
  repeat' split
  all_goals first
    | (rw [decide_eq_false (by omega)])
    | (rw [decide_eq_true (by omega)])
    | (congr 1; rw [Bool.beq_eq_decide_eq]; exact decide_eq_decide.2 (by omega))
    | (congr 1; exact decide_eq_decide.2 (by omega))

/-- The reference's next state is the charger's. -/
theorem ref_step (c0 : ByteArray) (c1 c2 c3 c4 c5 c6 c7 ph am lf : Int) (we : Bool) (k n m : Int) :
    chargeparkref12_Step.f c0 c1 c2 c3 c4 c5 c6 c7 ph am lf we k n m = some (stp c2 c3 c4 c5 c6 ph am lf we k n m) := by
  unfold chargeparkref12_Step.f stp
  rw [ref_valid _ _ _ _ _ _ _ _ _ _ _ _ 8, ref_fits]
  simp only [Option.bind_some]
  by_cases h : sB c2 c3 c4 c5 c6 ph am lf we = true
  case neg => rw [if_neg h, if_neg h]
  rw [if_pos h, if_pos h]
  obtain ⟨hc, o⟩ := sB_true h
  by_cases hk : 1 ≤ k ∧ k ≤ 9
  case neg => rw [if_neg hk, if_neg hk]
  rw [if_pos hk, if_pos hk]
  cases hf : fB c4 k n m
  · rw [if_neg (by decide), if_neg (by decide)]
  rw [if_pos rfl, if_pos rfl, ref_phase ph am lf we k n m 8]
  simp only [Option.bind_some]
  obtain ⟨p0, p1, l0, l1, a0, a1, z, f⟩ := o
  rw [if_pos ⟨l0, l1⟩]
  have hf := of_decide_eq_true hf
  unfold Hand.stepV
  have hpp : ph = 0 ∨ ph = 1 ∨ ph = 2 ∨ ph = 3 ∨ ph = 4 ∨ ph = 5 := by omega
  by_cases ht : phV ph we k n < 0
  · -- it is not possible
    have : Hand.stepT k ph = -1 := by
      unfold phV at ht
      unfold Hand.stepT
      rcases kinds hk with rfl | rfl | rfl | rfl | rfl | rfl | rfl | rfl | rfl
      all_goals rcases hpp with rfl | rfl | rfl | rfl | rfl | rfl
      all_goals first | rfl | (exfalso; revert ht; simp; done) | (exfalso; revert ht; simp; repeat' split; all_goals omega)
    rw [if_pos this, if_pos ht]
  · have hn : Hand.stepT k ph ≠ -1 := by
      unfold phV at ht
      unfold Hand.stepT
      rcases kinds hk with rfl | rfl | rfl | rfl | rfl | rfl | rfl | rfl | rfl
      all_goals rcases hpp with rfl | rfl | rfl | rfl | rfl | rfl
      all_goals first | (exfalso; revert ht; simp; done) | (intro hq; revert hq; simp; done) | (simp; done) | (cases we <;> simp_all; done)
    rw [if_neg hn, if_neg ht]
    have key : refW (phV ph we k n) am lf we k n m = Hand.stepW (Hand.stepT k ph) am lf we k n m := by
      have hz : (if lf = 0 then (0 : Int) else am) = am := by
        by_cases q : lf = 0
        · rw [if_pos q, z q]
        · rw [if_neg q]
      have hw : we = true → ph = 5 := f
      clear z f
      unfold refW Hand.stepW
      rw [hz]
      clear hz
      rcases kinds hk with rfl | rfl | rfl | rfl | rfl | rfl | rfl | rfl | rfl
      all_goals rcases hpp with rfl | rfl | rfl | rfl | rfl | rfl
      all_goals cases we
      all_goals try (exfalso; have := hw rfl; omega)
      all_goals clear hw
      all_goals try (exfalso; revert ht; simp [phV]; done)
      all_goals try simp at hf
      all_goals try simp [phV, Hand.stepT]
      all_goals repeat' split
      all_goals first | rfl | (exfalso; omega) | (simp; omega) | (simp_all; done) | (simp_all; omega)
    rw [key]

theorem ref_allowed (c0 : ByteArray) (c1 c2 c3 c4 c5 c6 c7 ph am lf : Int) (we : Bool) (K : Nat) (r : Int) (h : charger_Allowed.f c0 c1 c2 c3 c4 c5 c6 c7 ph am lf we = some r) :
    chargeparkref12_Allowed.f (K + 1) c0 c1 c2 c3 c4 c5 c6 c7 ph am lf we = some r := by
  unfold chargeparkref12_Allowed.f
  rw [ref_valid]
  simp only [Option.bind_some]
  by_cases g : sB c2 c3 c4 c5 c6 ph am lf we = true
  · rw [allowed_eq _ _ _ g] at h
    obtain rfl := Option.some.inj h
    rw [if_pos g]
    obtain ⟨_, o⟩ := sB_true g
    have := o.l0
    unfold alw
    cases we
    · simp only [Bool.false_eq_true, if_false]
      by_cases p4 : ph = 4
      · rw [if_pos p4, if_pos p4]
        by_cases q : lf = 0
        · rw [if_pos q, if_neg (by omega)]
        · rw [if_neg q, if_pos (by omega)]
      · rw [if_neg p4, if_neg p4]
    · simp
  · unfold charger_Allowed.f at h
    rw [charger_valid] at h
    simp only [Option.bind_some] at h
    rw [if_neg g] at h ⊢
    exact h

theorem allowed_some (c0 : ByteArray) (c1 c2 c3 c4 c5 c6 c7 ph am lf : Int) (we : Bool) : ∃ r, charger_Allowed.f c0 c1 c2 c3 c4 c5 c6 c7 ph am lf we = some r := by
  by_cases g : sB c2 c3 c4 c5 c6 ph am lf we = true
  · exact ⟨_, allowed_eq _ _ _ g⟩
  · unfold charger_Allowed.f
    rw [charger_valid]
    simp only [Option.bind_some]
    rw [if_neg g]
    exact ⟨_, rfl⟩

theorem ChargerMatchesReference (a0_0 : ByteArray) (a0_1 a0_2 a0_3 a0_4 a0_5 a0_6 a0_7 a1_0 a1_1 a1_2 : Int) (a1_3 : Bool) (a2_0 a2_1 a2_2 : Int) (_ : (Lit.int .i64 a0_1).wf = true) (_ : (Lit.int .i64 a0_2).wf = true) (_ : (Lit.int .i64 a0_3).wf = true) (_ : (Lit.int .i64 a0_4).wf = true) (_ : (Lit.int .i64 a0_5).wf = true) (_ : (Lit.int .i64 a0_6).wf = true) (_ : (Lit.int .i64 a0_7).wf = true) (_ : (Lit.int .i64 a1_0).wf = true) (_ : (Lit.int .i64 a1_1).wf = true) (_ : (Lit.int .i64 a1_2).wf = true) (_ : (Lit.int .i64 a2_0).wf = true) (_ : (Lit.int .i64 a2_1).wf = true) (_ : (Lit.int .i64 a2_2).wf = true) :
    ∃ k, chargeparklaw12_ChargerMatchesReference.f k a0_0 a0_1 a0_2 a0_3 a0_4 a0_5 a0_6 a0_7 a1_0 a1_1 a1_2 a1_3 a2_0 a2_1 a2_2 = some true := by
  refine ⟨7, ?_⟩
  unfold chargeparklaw12_ChargerMatchesReference.f chargeparklaw12_head_c.f
  obtain ⟨r, hr⟩ := allowed_some a0_0 a0_1 a0_2 a0_3 a0_4 a0_5 a0_6 a0_7 a1_0 a1_1 a1_2 a1_3
  rw [step_eq, ref_step, charger_valid, ref_valid _ _ _ _ _ _ _ _ _ _ _ _ 6, hr, ref_allowed _ _ _ _ _ _ _ _ _ _ _ _ 6 r hr]
  simp [charger_Start.f]
end Go.Proofs.YtnfanhnflcjphaaDoor.Pure
