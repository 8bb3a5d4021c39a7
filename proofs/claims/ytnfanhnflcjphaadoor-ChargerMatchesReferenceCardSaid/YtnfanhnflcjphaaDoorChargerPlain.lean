/- Plain facts on the printed functions of chapter 12: validity, the next state. No conditions. -/
import Derived.Test.YtnfanhnflcjphaaDoorPAllx3
import Derived.Test.YtnfanhnflcjphaaDoorPAllx4
import Derived.Test.YtnfanhnflcjphaaDoorPAllx7
import Derived.OpenShut
namespace Go.Proofs.YtnfanhnflcjphaaDoor.Plain
open Go.RowKit Go.Proofs.YtnfanhnflcjphaaDoor.PAll Go.Proofs.YtnfanhnflcjphaaDoorW.PrintWords Go.Proofs.YtnfanhnflcjphaaDoorW.PrintLast Go.Proofs.YtnfanhnflcjphaaDoorW.PrintMore

theorem w_id (a : Int) (h : -9223372036854775808 ≤ a) (h' : a ≤ 9223372036854775807) : wrap64 a = a := by unfold wrap64; omega

/-- Is a charger valid? -/
def chB (c2 c3 c4 c5 c6 : Int) : Bool := decide (1 ≤ c2 ∧ c2 ≤ 7 ∧ 1 ≤ c3 ∧ c4 ≤ 80 ∧ c3 ≤ c4 ∧ 1 ≤ c5 ∧ c5 ≤ 80 ∧ (c6 = 0 ∨ c3 ≤ c6 ∧ c6 ≤ c4))

/-- What is known of a valid state. -/
structure Ok (c4 ph am lf : Int) (we : Bool) : Prop where
  p0 : 0 ≤ ph
  p1 : ph ≤ 5
  l0 : 0 ≤ lf
  l1 : lf ≤ 1000000
  a0 : 0 ≤ am
  a1 : am ≤ c4
  z : lf = 0 → am = 0
  f : we = true → ph = 5

/-- Is a state valid (of a valid charger)? -/
def okB (c4 ph am lf : Int) (we : Bool) : Bool := decide (0 ≤ ph ∧ ph ≤ 5 ∧ 0 ≤ lf ∧ lf ≤ 1000000 ∧ 0 ≤ am ∧ am ≤ c4 ∧ (lf = 0 → am = 0) ∧ (we = true → ph = 5))
theorem okB_iff {c4 ph am lf : Int} {we : Bool} : okB c4 ph am lf we = true ↔ Ok c4 ph am lf we := by
  unfold okB
  rw [decide_eq_true_eq]
  exact ⟨fun ⟨a, b, c, d, e, f, g, h⟩ => ⟨a, b, c, d, e, f, g, h⟩, fun ⟨a, b, c, d, e, f, g, h⟩ => ⟨a, b, c, d, e, f, g, h⟩⟩

def sB (c2 c3 c4 c5 c6 ph am lf : Int) (we : Bool) : Bool := chB c2 c3 c4 c5 c6 && okB c4 ph am lf we

theorem sB_true {c2 c3 c4 c5 c6 ph am lf : Int} {we : Bool} (h : sB c2 c3 c4 c5 c6 ph am lf we = true) : chB c2 c3 c4 c5 c6 = true ∧ Ok c4 ph am lf we := by
  unfold sB at h; rw [Bool.and_eq_true] at h; exact ⟨h.1, okB_iff.1 h.2⟩
theorem sB_of {c2 c3 c4 c5 c6 ph am lf : Int} {we : Bool} (h : chB c2 c3 c4 c5 c6 = true) (h' : Ok c4 ph am lf we) : sB c2 c3 c4 c5 c6 ph am lf we = true := by
  unfold sB; rw [h, okB_iff.2 h']; rfl

/-- Are the numbers of an event possible? -/
def fB (c4 k n m : Int) : Bool := decide ((k = 4 → 0 ≤ n ∧ n ≤ 1) ∧ (k = 6 → 0 ≤ n ∧ n ≤ 2) ∧ (k = 7 → 0 ≤ n ∧ n ≤ c4 ∧ 1 ≤ m ∧ m ≤ 1000000))

section
variable (c0 : ByteArray) (c1 c2 c3 c4 c5 c6 c7 : Int)

theorem in_eq (a b c : Int) : charger_in.f a b c = some (decide (b ≤ a ∧ a ≤ c)) := by
  unfold charger_in.f
  split
  all_goals first
    | (rw [decide_eq_false (by omega)])
    | (congr 1; exact decide_eq_decide.2 (by omega))

theorem ref_charger : chargeparkref12_Charger.f c0 c1 c2 c3 c4 c5 c6 c7 = some (chB c2 c3 c4 c5 c6) := by
  unfold chargeparkref12_Charger.f chB
  repeat' split
  all_goals first
    | (rw [decide_eq_false (by omega)])
    | (rw [decide_eq_true (by omega)])
    | (congr 1; exact decide_eq_decide.2 (by omega))

theorem is_charger : charger_isCharger.f c0 c1 c2 c3 c4 c5 c6 c7 = some (chB c2 c3 c4 c5 c6) := by
  unfold charger_isCharger.f chB
  simp only [in_eq, Option.bind_some, decide_eq_true_eq]
  repeat' split
  all_goals first
    | (rw [decide_eq_false (by omega)])
    | (rw [decide_eq_true (by omega)])
    | (congr 1; exact decide_eq_decide.2 (by omega))

theorem charger_valid (ph am lf : Int) (we : Bool) : charger_Valid.f c0 c1 c2 c3 c4 c5 c6 c7 ph am lf we = some (sB c2 c3 c4 c5 c6 ph am lf we) := by
  unfold charger_Valid.f sB okB
  rw [is_charger]
  simp only [in_eq, Option.bind_some, decide_eq_true_eq]
  by_cases h : chB c2 c3 c4 c5 c6 = true
  · rw [if_pos h, h, Bool.true_and]
    cases we
    all_goals repeat' split
    all_goals first
      | contradiction
      | (rw [decide_eq_false (by simp; omega)])
      | (rw [decide_eq_true (by simp; omega)])
      | (congr 1; rw [Bool.beq_eq_decide_eq]; exact decide_eq_decide.2 (by simp; omega))
  · rw [if_neg h]; simp only [Bool.not_eq_true] at h; rw [h]; rfl

theorem ref_valid (ph am lf : Int) (we : Bool) (k : Nat) : chargeparkref12_Valid.f (k + 1) c0 c1 c2 c3 c4 c5 c6 c7 ph am lf we = some (sB c2 c3 c4 c5 c6 ph am lf we) := by
  unfold chargeparkref12_Valid.f sB okB
  rw [ref_charger]
  simp only [Option.bind_some, chargeparkref12_Valid.j0, decide_eq_true_eq, if_true]
  by_cases h : chB c2 c3 c4 c5 c6 = true
  · rw [if_pos h, h, Bool.true_and]
    cases we
    all_goals repeat' split
    all_goals first
      | contradiction
      | (rw [decide_eq_false (by simp; omega)])
      | (rw [decide_eq_true (by simp; omega)])
      | (congr 1; rw [Bool.beq_eq_decide_eq]; exact decide_eq_decide.2 (by simp; omega))
  · rw [if_neg h]; simp only [Bool.not_eq_true] at h; rw [h]; rfl

theorem fits_eq (k n m : Int) : charger_fits.f c0 c1 c2 c3 c4 c5 c6 c7 k n m = some (fB c4 k n m) := by
  unfold charger_fits.f fB
  simp only [in_eq, Option.bind_some, decide_eq_true_eq]
  repeat' split
  all_goals first
    | (rw [decide_eq_false (by omega)])
    | (rw [decide_eq_true (by omega)])
    | (congr 1; exact decide_eq_decide.2 (by omega))

/-- The next state, and the error. -/
def stp (c2 c3 c4 c5 c6 ph am lf : Int) (we : Bool) (k n m : Int) : Int × Int × Int × Bool × Int :=
  if sB c2 c3 c4 c5 c6 ph am lf we = true then (if 1 ≤ k ∧ k ≤ 9 then (if fB c4 k n m = true then Hand.stepV ph am lf we k n m else (0, 0, 0, false, 1)) else (0, 0, 0, false, 9)) else (0, 0, 0, false, 1)

theorem step_eq (ph am lf : Int) (we : Bool) (k n m : Int) : charger_Step.f c0 c1 c2 c3 c4 c5 c6 c7 ph am lf we k n m = some (stp c2 c3 c4 c5 c6 ph am lf we k n m) := by
  unfold charger_Step.f stp
  rw [charger_valid, in_eq, fits_eq]
  simp only [Option.bind_some, decide_eq_true_eq]
  repeat' split
  all_goals rfl

/-- What the site has to reckon with. -/
def alw (c4 c6 ph am lf : Int) (we : Bool) : Int := if we = true then c4 else if ph = 4 then (if lf > 0 then am else c6) else 0

variable {c2 c3 c4 c5 c6}
theorem allowed_eq {ph am lf : Int} {we : Bool} (h : sB c2 c3 c4 c5 c6 ph am lf we = true) : charger_Allowed.f c0 c1 c2 c3 c4 c5 c6 c7 ph am lf we = some (alw c4 c6 ph am lf we) := by
  unfold charger_Allowed.f alw
  rw [charger_valid, h]
  simp only [Option.bind_some, if_true]
  repeat' split
  all_goals rfl
end

/-- The kinds of events. -/
theorem kinds {k : Int} (h : 1 ≤ k ∧ k ≤ 9) : k = 1 ∨ k = 2 ∨ k = 3 ∨ k = 4 ∨ k = 5 ∨ k = 6 ∨ k = 7 ∨ k = 8 ∨ k = 9 := by omega

/-- The phase that the table tells, of a valid state. -/
theorem stepT_in {c4 ph am lf : Int} {we : Bool} (o : Ok c4 ph am lf we) (k : Int) : Hand.stepT k ph = -1 ∨ 0 ≤ Hand.stepT k ph ∧ Hand.stepT k ph ≤ 5 := by
  have := o.p0; have := o.p1
  unfold Hand.stepT
  repeat' split
  all_goals omega

/-- The state after an event is valid. -/
theorem stepW_ok {c4 ph am lf : Int} {we : Bool} (o : Ok c4 ph am lf we) {k n m : Int} (hk : 1 ≤ k ∧ k ≤ 9) (hf : fB c4 k n m = true) (ht : Hand.stepT k ph ≠ -1) :
    Ok c4 (Hand.stepW (Hand.stepT k ph) am lf we k n m).1 (Hand.stepW (Hand.stepT k ph) am lf we k n m).2.1 (Hand.stepW (Hand.stepT k ph) am lf we k n m).2.2.1 (Hand.stepW (Hand.stepT k ph) am lf we k n m).2.2.2 := by
  have hT : 0 ≤ Hand.stepT k ph ∧ Hand.stepT k ph ≤ 5 := by exact (stepT_in o k).resolve_left ht
  have hf := of_decide_eq_true hf
  generalize Hand.stepT k ph = T at *
  obtain ⟨p0, p1, l0, l1, a0, a1, z, f⟩ := o
  unfold Hand.stepW
  cases we
  all_goals
    rcases kinds hk with rfl | rfl | rfl | rfl | rfl | rfl | rfl | rfl | rfl
    all_goals simp at hf ⊢
    all_goals repeat' split
    all_goals (refine ⟨?_, ?_, ?_, ?_, ?_, ?_, ?_, ?_⟩ <;> first | omega | (simp; done) | (simp; omega) | (intro; omega))

theorem stp_cases {c2 c3 c4 c5 c6 ph am lf : Int} {we : Bool} (h : sB c2 c3 c4 c5 c6 ph am lf we = true) (k n m : Int) :
    ((stp c2 c3 c4 c5 c6 ph am lf we k n m = (0, 0, 0, false, 9) ∧ ¬ (1 ≤ k ∧ k ≤ 9)) ∨ (stp c2 c3 c4 c5 c6 ph am lf we k n m = (0, 0, 0, false, 1) ∧ (1 ≤ k ∧ k ≤ 9) ∧ fB c4 k n m = false) ∨ (stp c2 c3 c4 c5 c6 ph am lf we k n m = (0, 0, 0, false, 6) ∧ (1 ≤ k ∧ k ≤ 9) ∧ fB c4 k n m = true ∧ Hand.stepT k ph = -1)) ∨
    ∃ ph' am' lf' we', stp c2 c3 c4 c5 c6 ph am lf we k n m = (ph', am', lf', we', 0) ∧ sB c2 c3 c4 c5 c6 ph' am' lf' we' = true ∧ (1 ≤ k ∧ k ≤ 9) ∧ fB c4 k n m = true ∧ Hand.stepT k ph ≠ -1 ∧ (ph', am', lf', we') = Hand.stepW (Hand.stepT k ph) am lf we k n m := by
  obtain ⟨hc, o⟩ := sB_true h
  unfold stp
  rw [if_pos h]
  by_cases hk : 1 ≤ k ∧ k ≤ 9
  · rw [if_pos hk]
    cases hf : fB c4 k n m
    · rw [if_neg (by decide)]; exact .inl (.inr (.inl ⟨rfl, hk, rfl⟩))
    · rw [if_pos rfl]
      unfold Hand.stepV
      by_cases ht : Hand.stepT k ph = -1
      · rw [if_pos ht]; exact .inl (.inr (.inr ⟨rfl, hk, rfl, ht⟩))
      · rw [if_neg ht]
        exact .inr ⟨_, _, _, _, rfl, sB_of hc (stepW_ok o hk hf ht), hk, rfl, ht, rfl⟩
  · rw [if_neg hk]; exact .inl (.inl ⟨rfl, hk⟩)
end Go.Proofs.YtnfanhnflcjphaaDoor.Plain
