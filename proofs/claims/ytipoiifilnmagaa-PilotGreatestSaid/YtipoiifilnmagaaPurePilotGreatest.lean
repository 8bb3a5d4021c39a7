/- The current read from a duty cycle from 100 to 960 is the greatest one whose duty cycle is not above it, said of the printed functions. No conditions of its own. -/
import Derived.Test.YtipoiifilnmagaaPPilotGreatestx1
import Derived.OpenShut
namespace Go.Proofs.Ytipoiifilnmagaa.Pure
open Go.RowKit Go.Proofs.Ytipoiifilnmagaa.PPilotGreatest Go.Proofs.YtipoiifilnmagaaW.PrintWords Go.Proofs.YtipoiifilnmagaaW.PrintLast

theorem head_ok (k : Nat) : chargeparklaw11_head.f (k + 2) = some true := by rfl

theorem duty_ok (c : Int) (h : 6 ≤ c) (h' : c ≤ 80) : ∃ d, chargeparklaw11_duty.f c = some d ∧ 100 ≤ d ∧ d ≤ 960 ∧ ((c = 52 ∧ d = 851) ∨ (52 < c ∧ d = 4 * c + 640) ∨ (c < 52 ∧ d = (c * 1000 + 59) / 60)) := by
  by_cases h52 : 52 ≤ c
  · have e : Hand.dutyV c = (if c = 52 then 851 else 4 * c + 640, 0) := by unfold Hand.dutyV; rw [if_neg (by omega), if_neg (by omega), if_neg (by omega), if_pos h52]
    refine ⟨if c = 52 then 851 else 4 * c + 640, by simp [chargeparklaw11_duty.f, pilot_Duty.f, e], ?_⟩
    by_cases h2 : c = 52
    · rw [if_pos h2]; omega
    · rw [if_neg h2]; omega
  · have e : Hand.dutyV c = ((c * 1000 + 59) / 60, 0) := by unfold Hand.dutyV; rw [if_neg (by omega), if_neg (by omega), if_neg (by omega), if_neg h52]
    exact ⟨(c * 1000 + 59) / 60, by simp [chargeparklaw11_duty.f, pilot_Duty.f, e], by omega⟩

theorem amps_ok (d : Int) (h : 0 ≤ d) (h' : d ≤ 1000) : ∃ a, chargeparklaw11_amps.f d = some a ∧ 0 ≤ a ∧ (d < 100 → a = 0) ∧ (960 < d → a = 0) ∧ (100 ≤ d → d ≤ 960 → 6 ≤ a ∧ a ≤ 80 ∧ ((851 ≤ d ∧ a = (d - 640) / 4) ∨ (d ≤ 850 ∧ a = d * 60 / 1000))) := by
  by_cases h1 : d < 100
  · have e : Hand.ampsV d = (0, 0) := by unfold Hand.ampsV; rw [if_neg (by omega), if_neg (by omega), if_pos h1]
    exact ⟨0, by simp [chargeparklaw11_amps.f, pilot_Amps.f, e], by omega⟩
  by_cases h2 : 960 < d
  · have e : Hand.ampsV d = (0, 0) := by unfold Hand.ampsV; rw [if_neg (by omega), if_neg (by omega), if_neg h1, if_pos h2]
    exact ⟨0, by simp [chargeparklaw11_amps.f, pilot_Amps.f, e], by omega⟩
  by_cases h3 : 851 ≤ d
  · have e : Hand.ampsV d = ((d - 640) / 4, 0) := by unfold Hand.ampsV; rw [if_neg (by omega), if_neg (by omega), if_neg h1, if_neg h2, if_pos h3]
    exact ⟨(d - 640) / 4, by simp [chargeparklaw11_amps.f, pilot_Amps.f, e], by omega⟩
  · have e : Hand.ampsV d = (d * 60 / 1000, 0) := by unfold Hand.ampsV; rw [if_neg (by omega), if_neg (by omega), if_neg h1, if_neg h2, if_neg h3]
    exact ⟨d * 60 / 1000, by simp [chargeparklaw11_amps.f, pilot_Amps.f, e], by omega⟩

theorem u8_in (a : Int) (h : (Lit.int .u8 a).wf = true) : 0 ≤ a ∧ a ≤ 255 := bounds_u8 h
theorem u16_in (a : Int) (h : (Lit.int .u16 a).wf = true) : 0 ≤ a ∧ a ≤ 65535 := bounds_u16 h

theorem w_id (a : Int) (h : -9223372036854775808 ≤ a) (h' : a ≤ 9223372036854775807) : wrap64 a = a := by unfold wrap64; omega

theorem cyc_ok (a : Int) (h : 0 ≤ a ∧ a ≤ 65535) : ∃ c, chargeparklaw11_cycle.f a = some c ∧ 100 ≤ c ∧ c ≤ 960 := by
  refine ⟨100 + a % 861, ?_, by omega, by omega⟩
  unfold chargeparklaw11_cycle.f
  rw [w_id a (by omega) (by omega), Int.tmod_eq_emod_of_nonneg (by omega), w_id _ (by omega) (by omega)]

theorem loop_ok (d : Int) (n : Nat) : ∀ (k : Nat) (i : Int), 6 ≤ i → i ≤ 81 → (81 - i = n) → n < k → (∀ c y, i ≤ c → c ≤ 80 → chargeparklaw11_duty.f c = some y → d < y) →
    chargeparklaw11_PilotGreatest.l0 k true d i = some true := by
  induction n with
  | zero =>
    intro k i h1 h2 h3 hk _
    obtain ⟨k, rfl⟩ : ∃ m, k = m + 1 := ⟨k - 1, by omega⟩
    simp only [chargeparklaw11_PilotGreatest.l0]; rw [if_neg (by omega)]
  | succ n ih =>
    intro k i h1 h2 h3 hk H
    obtain ⟨k, rfl⟩ : ∃ m, k = m + 1 := ⟨k - 1, by omega⟩
    obtain ⟨y, hy, _⟩ := duty_ok i h1 (by omega)
    have hl := H i y (by omega) (by omega) hy
    simp only [chargeparklaw11_PilotGreatest.l0]
    rw [if_pos (by omega), hy]; simp only [Option.bind_some]
    rw [if_neg (by omega), w_id _ (by omega) (by omega)]
    exact ih k (i + 1) (by omega) (by omega) (by omega) (by omega) (fun c y h h' => H c y (by omega) h')

theorem PilotGreatest : chargeparklaw11_PilotGreatest.Pure := by
  intro a0 h
  obtain ⟨d, hd, d1, d2⟩ := cyc_ok a0 (u16_in a0 h)
  obtain ⟨a, ha, a1, a2, a3, a4⟩ := amps_ok d (by omega) (by omega)
  obtain ⟨a5, a6, a7⟩ := a4 d1 d2
  obtain ⟨y, hy, y1, y2, y3⟩ := duty_ok a a5 a6
  refine ⟨90, ?_⟩
  unfold chargeparklaw11_PilotGreatest.f
  rw [head_ok 88]
  simp only [Option.bind_some, hd, ha]
  rw [if_neg (by omega), if_neg (by omega)]
  simp only [Option.bind_some, hy]
  rw [decide_eq_false (by omega)]
  simp only [chargeparklaw11_PilotGreatest.j0]
  rw [if_neg (by simp), w_id _ (by omega) (by omega)]
  refine loop_ok d (81 - (a + 1)).toNat _ _ (by omega) (by omega) (by omega) (by omega) ?_
  intro c x h1 h2 hx
  obtain ⟨x', hx', x1, x2, x3⟩ := duty_ok c (by omega) h2
  obtain rfl : x' = x := Option.some.inj (hx'.symm.trans hx)
  omega

end Go.Proofs.Ytipoiifilnmagaa.Pure
