/- A duty cycle read too low leads to no greater current, one thousandth less changes it by at most 1, said of the printed functions. No conditions of its own. -/
import Derived.Test.YtipoiifilnmagaaPPilotMisreadx1
import Derived.OpenShut
namespace Go.Proofs.Ytipoiifilnmagaa.Pure
open Go.RowKit Go.Proofs.Ytipoiifilnmagaa.PPilotMisread Go.Proofs.YtipoiifilnmagaaW.PrintWords Go.Proofs.YtipoiifilnmagaaW.PrintLast

theorem head_ok (k : Nat) : chargeparklaw11_head.f (k + 2) = some true := by rfl

theorem duty_ok (c : Int) (h : 6 ≤ c) (h' : c ≤ 80) : ∃ d, chargeparklaw11_duty.f c = some d ∧ 100 ≤ d ∧ d ≤ 960 ∧ ((c = 52 ∧ d = 851) ∨ (52 < c ∧ d = 4 * c + 640) ∨ (c < 52 ∧ d = (c * 1000 + 59) / 60)) := by
  by_cases h52 : 52 ≤ c
  · have e : Hand.dutyV c = (if c = 52 then 851 else 4 * c + 640, 0) := by unfold Hand.dutyV; rw [if_neg (by omega), if_neg (by omega), if_neg (by omega), if_pos h52]
    refine ⟨if c = 52 then 851 else 4 * c + 640, by simp [chargeparklaw11_duty.f, pilot_Duty.f, e], ?_⟩
    by_cases h2 : c = 52
    · rw [if_pos h2]; omega
    · rw [if_neg h2]; omega
  · have e : Hand.dutyV c = ((c * 1000 + 59) / 60, 0) := by unfold Hand.dutyV; rw [if_neg (by omega), if_neg (by omega), if_neg (by omega), if_neg h52]
    exact ⟨(c * 1000 + 59) / 60, by simp [chargeparklaw11_duty.f, pilot_Duty.f, e], by omega⟩

theorem amps_ok (d : Int) (h : 0 ≤ d) (h' : d ≤ 1000) : ∃ a, chargeparklaw11_amps.f d = some a ∧ 0 ≤ a ∧ (d < 100 → a = 0) ∧ (960 < d → a = 0) ∧ (100 ≤ d → d ≤ 960 → 6 ≤ a ∧ a ≤ 80 ∧ ((851 ≤ d ∧ a = (d - 640) / 4) ∨ (d ≤ 850 ∧ a = d * 60 / 1000))) := by
  by_cases h1 : d < 100
  · have e : Hand.ampsV d = (0, 0) := by unfold Hand.ampsV; rw [if_neg (by omega), if_neg (by omega), if_pos h1]
    exact ⟨0, by simp [chargeparklaw11_amps.f, pilot_Amps.f, e], by omega⟩
  by_cases h2 : 960 < d
  · have e : Hand.ampsV d = (0, 0) := by unfold Hand.ampsV; rw [if_neg (by omega), if_neg (by omega), if_neg h1, if_pos h2]
    exact ⟨0, by simp [chargeparklaw11_amps.f, pilot_Amps.f, e], by omega⟩
  by_cases h3 : 851 ≤ d
  · have e : Hand.ampsV d = ((d - 640) / 4, 0) := by unfold Hand.ampsV; rw [if_neg (by omega), if_neg (by omega), if_neg h1, if_neg h2, if_pos h3]
    exact ⟨(d - 640) / 4, by simp [chargeparklaw11_amps.f, pilot_Amps.f, e], by omega⟩
  · have e : Hand.ampsV d = (d * 60 / 1000, 0) := by unfold Hand.ampsV; rw [if_neg (by omega), if_neg (by omega), if_neg h1, if_neg h2, if_neg h3]
    exact ⟨d * 60 / 1000, by simp [chargeparklaw11_amps.f, pilot_Amps.f, e], by omega⟩

theorem u8_in (a : Int) (h : (Lit.int .u8 a).wf = true) : 0 ≤ a ∧ a ≤ 255 := bounds_u8 h
theorem u16_in (a : Int) (h : (Lit.int .u16 a).wf = true) : 0 ≤ a ∧ a ≤ 65535 := bounds_u16 h

theorem w_id (a : Int) (h : -9223372036854775808 ≤ a) (h' : a ≤ 9223372036854775807) : wrap64 a = a := by unfold wrap64; omega

theorem cyc_ok (a : Int) (h : 0 ≤ a ∧ a ≤ 65535) : ∃ c, chargeparklaw11_cycle.f a = some c ∧ 100 ≤ c ∧ c ≤ 960 := by
  refine ⟨100 + a % 861, ?_, by omega, by omega⟩
  unfold chargeparklaw11_cycle.f
  rw [w_id a (by omega) (by omega), Int.tmod_eq_emod_of_nonneg (by omega), w_id _ (by omega) (by omega)]

theorem low_ok (d a : Int) (h : 100 ≤ d) (h' : d ≤ 960) (ha : 0 ≤ a ∧ a ≤ 65535) : ∃ low, wrap64 (d - Int.tmod (wrap64 a) (wrap64 (d + 1))) = low ∧ 0 ≤ low ∧ low ≤ d := by
  have l1 : a % (d + 1) < d + 1 := Int.emod_lt_of_pos _ (by omega)
  have l2 : 0 ≤ a % (d + 1) := Int.emod_nonneg _ (by omega)
  refine ⟨d - a % (d + 1), ?_, by omega, by omega⟩
  rw [w_id a (by omega) (by omega), w_id (d + 1) (by omega) (by omega), Int.tmod_eq_emod_of_nonneg (by omega), w_id _ (by omega) (by omega)]

theorem PilotMisread : chargeparklaw11_PilotMisread.Pure := by
  intro a0 a1 h h1
  obtain ⟨d, hd, d1, d2⟩ := cyc_ok a0 (u16_in a0 h)
  obtain ⟨low, e, l1, l2⟩ := low_ok d a1 d1 d2 (u16_in a1 h1)
  obtain ⟨x, hx, x1, x2, x3, x4⟩ := amps_ok low (by omega) (by omega)
  obtain ⟨y, hy, y1, y2, y3, y4⟩ := amps_ok d (by omega) (by omega)
  obtain ⟨z, hz, z1, z2, z3, z4⟩ := amps_ok (d - 1) (by omega) (by omega)
  have y5 := y4 d1 d2
  have hxy : x ≤ y := by
    by_cases hl : low < 100
    · rw [x2 hl]; omega
    · have := x4 (by omega) (by omega); omega
  refine ⟨2, ?_⟩
  unfold chargeparklaw11_PilotMisread.f
  rw [head_ok 0]
  simp only [Option.bind_some, if_true, hd, e]
  rw [w_id (d + 1) (by omega) (by omega), w_id (d - 1) (by omega) (by omega), if_neg (by omega)]
  simp only [Option.bind_some, hx, hy, hz]
  rw [if_pos (by omega), if_pos hxy]
  by_cases h100 : d = 100
  · rw [if_pos h100]
  · have z5 := z4 (by omega) (by omega)
    rw [if_neg h100, w_id _ (by omega) (by omega), decide_eq_true (by omega)]

end Go.Proofs.Ytipoiifilnmagaa.Pure
