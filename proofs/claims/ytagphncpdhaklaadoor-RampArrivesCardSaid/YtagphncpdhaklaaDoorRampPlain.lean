/- Plain facts on the printed functions of chapter 24: validity, the levels, the next ramp. No conditions. -/
import Derived.Test.YtagphncpdhaklaaDoorPAllx4
import Derived.Test.YtagphncpdhaklaaDoorPAllx7
import Derived.OpenShut
namespace Go.Proofs.YtagphncpdhaklaaDoor.Plain
open Go.RowKit Go.Proofs.YtagphncpdhaklaaDoor.PAll Go.Proofs.YtagphncpdhaklaaDoorW.PrintWords Go.Proofs.YtagphncpdhaklaaDoorW.PrintLast Go.Proofs.YtagphncpdhaklaaDoorW.PrintMore
open Go.Proofs.YtagphncpdhaklaaDoor.Hand (levelV nextV sinceV)

theorem w_id (a : Int) (h : -9223372036854775808 ≤ a) (h' : a ≤ 9223372036854775807) : wrap64 a = a := by unfold wrap64; omega

/-- Is a charger valid? -/
def chB (c2 c3 c4 c5 c6 : Int) : Bool := decide (1 ≤ c2 ∧ c2 ≤ 7 ∧ 1 ≤ c3 ∧ c4 ≤ 80 ∧ c3 ≤ c4 ∧ 1 ≤ c5 ∧ c5 ≤ 80 ∧ (c6 = 0 ∨ c3 ≤ c6 ∧ c6 ≤ c4))

/-- What is known of a valid charger. -/
structure Ok (c3 c4 c5 : Int) : Prop where
  h1 : 1 ≤ c3
  h2 : c3 ≤ c4
  h3 : c4 ≤ 80
  h4 : 1 ≤ c5
  h5 : c5 ≤ 80

theorem chB_ok {c2 c3 c4 c5 c6 : Int} (h : chB c2 c3 c4 c5 c6 = true) : Ok c3 c4 c5 := by
  have := of_decide_eq_true h
  exact ⟨by omega, by omega, by omega, by omega, by omega⟩

section
variable (c0 : ByteArray) (c1 c2 c3 c4 c5 c6 c7 : Int)

theorem ref_charger : chargeparkref12_Charger.f c0 c1 c2 c3 c4 c5 c6 c7 = some (chB c2 c3 c4 c5 c6) := by
  unfold chargeparkref12_Charger.f chB
  repeat' split
  all_goals first
    | (rw [decide_eq_false (by omega)])
    | (rw [decide_eq_true (by omega)])
    | (congr 1; exact decide_eq_decide.2 (by omega))

theorem in_eq (a b c : Int) : charger_in.f a b c = some (decide (b ≤ a ∧ a ≤ c)) := by
  unfold charger_in.f
  split
  all_goals first
    | (rw [decide_eq_false (by omega)])
    | (congr 1; exact decide_eq_decide.2 (by omega))

theorem is_charger : charger_isCharger.f c0 c1 c2 c3 c4 c5 c6 c7 = some (chB c2 c3 c4 c5 c6) := by
  unfold charger_isCharger.f chB
  simp only [in_eq, Option.bind_some, decide_eq_true_eq]
  repeat' split
  all_goals first
    | (rw [decide_eq_false (by omega)])
    | (rw [decide_eq_true (by omega)])
    | (congr 1; exact decide_eq_decide.2 (by omega))

theorem valid_start : charger_Valid.f c0 c1 c2 c3 c4 c5 c6 c7 0 0 0 false = some (chB c2 c3 c4 c5 c6) := by
  unfold charger_Valid.f
  rw [is_charger]
  simp only [in_eq, Option.bind_some]
  by_cases h : chB c2 c3 c4 c5 c6 = true
  · have o := chB_ok h
    have e : decide ((0 : Int) ≤ 0 ∧ 0 ≤ c4) = true := decide_eq_true ⟨by omega, by have := o.h1; have := o.h2; omega⟩
    rw [if_pos h, if_pos (by decide), if_pos (by decide), if_pos e, h]
    simp
  · rw [if_neg h]; simp only [Bool.not_eq_true] at h; rw [h]

theorem emod_le (x s : Int) (h : 0 ≤ x) (hs : 1 ≤ s) : x % s ≤ x := by
  have h1 := Int.emod_add_mul_ediv x s
  have h2 : 0 ≤ s * (x / s) := Int.mul_nonneg (by omega) (Int.ediv_nonneg h (by omega))
  omega

variable {c3 c4 c5}
theorem level_in (ok : Ok c3 c4 c5) (a : Int) : 0 ≤ levelV c3 c4 c5 a ∧ (0 ≤ a → levelV c3 c4 c5 a ≤ a) ∧ levelV c3 c4 c5 a ≤ c4 := by
  obtain ⟨h1, h2, h3, h4, h5⟩ := ok
  unfold levelV
  by_cases d1 : a < c3
  · rw [if_pos d1]; omega
  · rw [if_neg d1]
    by_cases d2 : c4 < a
    · rw [if_pos d2]
      have := Int.emod_nonneg (c4 - c3) (show c5 ≠ 0 by omega)
      have := emod_le (c4 - c3) c5 (by omega) h4
      omega
    · rw [if_neg d2]
      have := Int.emod_nonneg (a - c3) (show c5 ≠ 0 by omega)
      have := emod_le (a - c3) c5 (by omega) h4
      omega

/-- The level below a is the last one of its row: x is it, if x is of the row, not above a, and x + step is above. -/
theorem level_of (ok : Ok c3 c4 c5) (a x : Int) (hx : c3 ≤ x) (hm : (x - c3) % c5 = 0) (h4 : x ≤ c4) (ha : x ≤ a) (hn : c4 < x + c5 ∨ a < x + c5) : levelV c3 c4 c5 a = x := by
  obtain ⟨o1, o2, o3, o4, o5⟩ := ok
  unfold levelV
  have key : ∀ m, x ≤ m → m < x + c5 → m - (m - c3) % c5 = x := fun m m1 m2 => by
    obtain ⟨q, hq⟩ := Int.dvd_of_emod_eq_zero hm
    have e : m - c3 = (m - x) + c5 * q := by omega
    rw [e, Int.add_mul_emod_self_left, Int.emod_eq_of_lt (by omega) (by omega)]
    omega
  rw [if_neg (by omega)]
  by_cases d2 : c4 < a
  · rw [if_pos d2]; exact key c4 h4 (by omega)
  · rw [if_neg d2]; exact key a ha (by omega)

theorem level_low (a : Int) (h : a < c3) : levelV c3 c4 c5 a = 0 := by unfold levelV; rw [if_pos h]

/-- The level below a, where there is one: it lies on the row, and the next one is too high. -/
theorem level_spec (ok : Ok c3 c4 c5) (a : Int) (h : c3 ≤ a) : (levelV c3 c4 c5 a - c3) % c5 = 0 ∧ c3 ≤ levelV c3 c4 c5 a ∧ levelV c3 c4 c5 a ≤ c4 ∧ levelV c3 c4 c5 a ≤ a ∧ (c4 < levelV c3 c4 c5 a + c5 ∨ a < levelV c3 c4 c5 a + c5) := by
  obtain ⟨o1, o2, o3, o4, o5⟩ := ok
  have key : ∀ m, c3 ≤ m → (m - (m - c3) % c5 - c3) % c5 = 0 ∧ c3 ≤ m - (m - c3) % c5 ∧ m - (m - c3) % c5 ≤ m ∧ m < m - (m - c3) % c5 + c5 := fun m hm => by
    have e1 := Int.emod_nonneg (m - c3) (show c5 ≠ 0 by omega)
    have e2 := emod_le (m - c3) c5 (by omega) o4
    have e3 := Int.emod_lt_of_pos (m - c3) (show 0 < c5 by omega)
    refine ⟨?_, by omega, by omega, by omega⟩
    have e4 := Int.emod_add_mul_ediv (m - c3) c5
    rw [show m - (m - c3) % c5 - c3 = c5 * ((m - c3) / c5) by omega]
    exact Int.mul_emod_right _ _
  unfold levelV
  rw [if_neg (by omega)]
  by_cases d2 : c4 < a
  · rw [if_pos d2]
    obtain ⟨k1, k2, k3, k4⟩ := key c4 o2
    exact ⟨k1, k2, k3, by omega, Or.inl k4⟩
  · rw [if_neg d2]
    obtain ⟨k1, k2, k3, k4⟩ := key a h
    exact ⟨k1, k2, by omega, k3, Or.inr k4⟩

/-- x lies on the row. -/
def c3le (c3 _c4 c5 x : Int) : Prop := c3 ≤ x ∧ (x - c3) % c5 = 0

theorem level_row (ok : Ok c3 c4 c5) {x : Int} (h : levelV c3 c4 c5 x = x) (h0 : x ≠ 0) : c3le c3 c4 c5 x := by
  by_cases hx : x < c3
  · exact absurd ((level_low x hx).symm.trans h).symm h0
  · have s := level_spec ok x (by omega)
    rw [h] at s
    exact ⟨by omega, s.1⟩

/-- The reference's loop over the levels. -/
theorem ref_loop (ok : Ok c3 c4 c5) (a : Int) (d : Nat) : ∀ (k : Nat) (x cur : Int), c4 + 1 - x ≤ d → d < k → c3 ≤ x → (x - c3) % c5 = 0 → x ≤ 200 →
    chargeparkref24_Level.l0 k a cur x c0 c1 c2 c3 c4 c5 c6 c7 = some (if x ≤ c4 ∧ x ≤ a then levelV c3 c4 c5 a else cur) := by
  induction d with
  | zero =>
    intro k x cur hd hk hx hm hb
    obtain ⟨k, rfl⟩ : ∃ m, k = m + 1 := ⟨k - 1, by omega⟩
    simp only [chargeparkref24_Level.l0]; rw [if_neg (by omega), if_neg (by omega)]
  | succ d ih =>
    intro k x cur hd hk hx hm hb
    obtain ⟨k, rfl⟩ : ∃ m, k = m + 1 := ⟨k - 1, by omega⟩
    have o := ok
    obtain ⟨o1, o2, o3, o4, o5⟩ := ok
    simp only [chargeparkref24_Level.l0]
    by_cases h4 : x ≤ c4
    · rw [if_pos h4, w_id (x + c5) (by omega) (by omega)]
      have hm' : (x + c5 - c3) % c5 = 0 := by rw [show x + c5 - c3 = (x - c3) + c5 by omega, Int.add_emod_right]; exact hm
      by_cases ha : x ≤ a
      · rw [if_pos ha, ih k (x + c5) x (by omega) (by omega) (by omega) hm' (by omega), if_pos (show x ≤ c4 ∧ x ≤ a from ⟨h4, ha⟩)]
        by_cases hn : x + c5 ≤ c4 ∧ x + c5 ≤ a
        · rw [if_pos hn]
        · rw [if_neg hn, level_of o a x hx hm h4 ha (by omega)]
      · rw [if_neg ha, ih k (x + c5) cur (by omega) (by omega) (by omega) hm' (by omega), if_neg (by omega), if_neg (by omega)]
    · rw [if_neg h4, if_neg (by omega)]

theorem ref_level (ok : Ok c3 c4 c5) (a : Int) (k : Nat) : chargeparkref24_Level.f (k + 82) c0 c1 c2 c3 c4 c5 c6 c7 a = some (levelV c3 c4 c5 a) := by
  unfold chargeparkref24_Level.f
  rw [ref_loop c0 c1 c2 c6 c7 ok a 80 _ c3 0 (by have := ok.h1; have := ok.h3; omega) (by omega) (Int.le_refl _) (by simp) (by have := ok.h2; have := ok.h3; omega)]
  by_cases h : c3 ≤ a
  · rw [if_pos ⟨ok.h2, h⟩]
  · rw [if_neg (by omega), level_low a (by omega)]
variable (c3 c4 c5)

/-- Is a ramp valid? -/
def rB (c2 c3 c4 c5 c6 r0 r1 : Int) : Bool := chB c2 c3 c4 c5 c6 && decide (0 ≤ r0 ∧ 0 ≤ r1 ∧ r1 ≤ 1000000 ∧ levelV c3 c4 c5 r0 = r0)

theorem rB_true {c2 c3 c4 c5 c6 r0 r1 : Int} (h : rB c2 c3 c4 c5 c6 r0 r1 = true) : Ok c3 c4 c5 ∧ 0 ≤ r0 ∧ 0 ≤ r1 ∧ r1 ≤ 1000000 ∧ levelV c3 c4 c5 r0 = r0 ∧ r0 ≤ c4 := by
  unfold rB at h
  rw [Bool.and_eq_true] at h
  have h2 := of_decide_eq_true h.2
  have := (level_in (chB_ok h.1) r0).2.2
  exact ⟨chB_ok h.1, by omega, by omega, by omega, h2.2.2.2, by omega⟩

theorem ref_valid (r0 r1 : Int) (k : Nat) : chargeparkref24_Valid.f (k + 82) c0 c1 c2 c3 c4 c5 c6 c7 r0 r1 = some (rB c2 c3 c4 c5 c6 r0 r1) := by
  unfold chargeparkref24_Valid.f rB
  rw [ref_charger]
  simp only [Option.bind_some]
  by_cases h : chB c2 c3 c4 c5 c6 = true
  · rw [if_pos h, h, ref_level c0 c1 c2 c6 c7 (chB_ok h)]
    simp only [Option.bind_some, Bool.true_and]
    repeat' split
    all_goals first
      | (rw [decide_eq_false (by omega)])
      | (congr 1; rw [Bool.beq_eq_decide_eq]; exact decide_eq_decide.2 (by omega))
  · rw [if_neg h]; simp only [Bool.not_eq_true] at h; rw [h]; rfl

theorem below_val (ok : Ok c3 c4 c5) (a : Int) : ramp_ladder_below.f c0 c1 c2 c3 c4 c5 c6 c7 a = some (levelV c3 c4 c5 a) :=
  PAll.below_val c0 c1 c2 c3 c4 c5 c6 c7 a ok.h1 ok.h2 ok.h3 ok.h4

theorem ramp_valid (r0 r1 : Int) : ramp_Valid.f c0 c1 c2 c3 c4 c5 c6 c7 r0 r1 = some (rB c2 c3 c4 c5 c6 r0 r1) := by
  unfold ramp_Valid.f charger_Start.f rB
  simp only [Option.bind_some]
  rw [valid_start]
  simp only [Option.bind_some]
  by_cases h : chB c2 c3 c4 c5 c6 = true
  · have hl := (level_in (chB_ok h) r0).2.2
    rw [if_pos h, h, below_val c0 c1 c2 c3 c4 c5 c6 c7 (chB_ok h)]
    simp only [Option.bind_some, Bool.true_and]
    repeat' split
    all_goals first
      | (rw [decide_eq_false (by omega)])
      | (congr 1; rw [Bool.beq_eq_decide_eq]; exact decide_eq_decide.2 (by omega))
  · rw [if_neg h]; simp only [Bool.not_eq_true] at h; rw [h]; rfl

/-- The next ramp, and the error. -/
def nxt (c2 c3 c4 c5 c6 r0 r1 want : Int) : Int × Int × Int :=
  if rB c2 c3 c4 c5 c6 r0 r1 = true then (if want < 0 then (0, 0, 1) else if 80 < want then (0, 0, 1) else ((nextV c3 c5 r0 r1 (levelV c3 c4 c5 want)).1, (nextV c3 c5 r0 r1 (levelV c3 c4 c5 want)).2, 0)) else (0, 0, 1)

theorem ramp_next (r0 r1 want : Int) : ramp_Next.f c0 c1 c2 c3 c4 c5 c6 c7 r0 r1 want = some (nxt c2 c3 c4 c5 c6 r0 r1 want) := by
  unfold ramp_Next.f nxt
  rw [ramp_valid]
  simp only [Option.bind_some]
  by_cases h : rB c2 c3 c4 c5 c6 r0 r1 = true
  · rw [if_pos h, if_pos h, below_val c0 c1 c2 c3 c4 c5 c6 c7 (rB_true h).1]
    simp only [Option.bind_some]
    repeat' split
    all_goals rfl
  · rw [if_neg h, if_neg h]

theorem nxt_ok {r0 r1 want : Int} (h : rB c2 c3 c4 c5 c6 r0 r1 = true) (h0 : 0 ≤ want) (h1 : want ≤ 80) : nxt c2 c3 c4 c5 c6 r0 r1 want = ((nextV c3 c5 r0 r1 (levelV c3 c4 c5 want)).1, (nextV c3 c5 r0 r1 (levelV c3 c4 c5 want)).2, 0) := by
  unfold nxt; rw [if_pos h, if_neg (by omega), if_neg (by omega)]
end
end Go.Proofs.YtagphncpdhaklaaDoor.Plain
