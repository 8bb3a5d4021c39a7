/- The current of a duty cycle is 0 outside 100 to 960, and from 6 to 80 inside, said of the printed functions. No conditions of its own. -/
import Derived.Test.YtipoiifilnmagaaPPilotRangex1
import Derived.OpenShut
namespace Go.Proofs.Ytipoiifilnmagaa.Pure
open Go.RowKit Go.Proofs.Ytipoiifilnmagaa.PPilotRange Go.Proofs.YtipoiifilnmagaaW.PrintWords Go.Proofs.YtipoiifilnmagaaW.PrintLast

theorem head_ok (k : Nat) : chargeparklaw11_head.f (k + 2) = some true := by rfl

theorem duty_ok (c : Int) (h : 6 ≤ c) (h' : c ≤ 80) : ∃ d, chargeparklaw11_duty.f c = some d ∧ 100 ≤ d ∧ d ≤ 960 ∧ ((c = 52 ∧ d = 851) ∨ (52 < c ∧ d = 4 * c + 640) ∨ (c < 52 ∧ d = (c * 1000 + 59) / 60)) := by
  by_cases h52 : 52 ≤ c
  · have e : Hand.dutyV c = (if c = 52 then 851 else 4 * c + 640, 0) := by unfold Hand.dutyV; rw [if_neg (by omega), if_neg (by omega), if_neg (by omega), if_pos h52]
    refine ⟨if c = 52 then 851 else 4 * c + 640, by simp [chargeparklaw11_duty.f, pilot_Duty.f, e], ?_⟩
    by_cases h2 : c = 52
    · rw [if_pos h2]; omega
    · rw [if_neg h2]; omega
  · have e : Hand.dutyV c = ((c * 1000 + 59) / 60, 0) := by unfold Hand.dutyV; rw [if_neg (by omega), if_neg (by omega), if_neg (by omega), if_neg h52]
    exact ⟨(c * 1000 + 59) / 60, by simp [chargeparklaw11_duty.f, pilot_Duty.f, e], by omega⟩

theorem amps_ok (d : Int) (h : 0 ≤ d) (h' : d ≤ 1000) : ∃ a, chargeparklaw11_amps.f d = some a ∧ 0 ≤ a ∧ (d < 100 → a = 0) ∧ (960 < d → a = 0) ∧ (100 ≤ d → d ≤ 960 → 6 ≤ a ∧ a ≤ 80 ∧ ((851 ≤ d ∧ a = (d - 640) / 4) ∨ (d ≤ 850 ∧ a = d * 60 / 1000))) := by
  by_cases h1 : d < 100
  · have e : Hand.ampsV d = (0, 0) := by unfold Hand.ampsV; rw [if_neg (by omega), if_neg (by omega), if_pos h1]
    exact ⟨0, by simp [chargeparklaw11_amps.f, pilot_Amps.f, e], by omega⟩
  by_cases h2 : 960 < d
  · have e : Hand.ampsV d = (0, 0) := by unfold Hand.ampsV; rw [if_neg (by omega), if_neg (by omega), if_neg h1, if_pos h2]
    exact ⟨0, by simp [chargeparklaw11_amps.f, pilot_Amps.f, e], by omega⟩
  by_cases h3 : 851 ≤ d
  · have e : Hand.ampsV d = ((d - 640) / 4, 0) := by unfold Hand.ampsV; rw [if_neg (by omega), if_neg (by omega), if_neg h1, if_neg h2, if_pos h3]
    exact ⟨(d - 640) / 4, by simp [chargeparklaw11_amps.f, pilot_Amps.f, e], by omega⟩
  · have e : Hand.ampsV d = (d * 60 / 1000, 0) := by unfold Hand.ampsV; rw [if_neg (by omega), if_neg (by omega), if_neg h1, if_neg h2, if_neg h3]
    exact ⟨d * 60 / 1000, by simp [chargeparklaw11_amps.f, pilot_Amps.f, e], by omega⟩

theorem u8_in (a : Int) (h : (Lit.int .u8 a).wf = true) : 0 ≤ a ∧ a ≤ 255 := bounds_u8 h
theorem u16_in (a : Int) (h : (Lit.int .u16 a).wf = true) : 0 ≤ a ∧ a ≤ 65535 := bounds_u16 h

theorem w_id (a : Int) (h : -9223372036854775808 ≤ a) (h' : a ≤ 9223372036854775807) : wrap64 a = a := by unfold wrap64; omega

theorem PilotRange : chargeparklaw11_PilotRange.Pure := by
  intro a0 h
  have h0 := u16_in a0 h
  have e : Int.tmod (wrap64 a0) 1001 = a0 % 1001 := by rw [w_id a0 (by omega) (by omega), Int.tmod_eq_emod_of_nonneg (by omega)]
  obtain ⟨a, ha, a1, a2, a3, a4⟩ := amps_ok (a0 % 1001) (by omega) (by omega)
  refine ⟨2, ?_⟩
  unfold chargeparklaw11_PilotRange.f
  rw [head_ok 0, e]
  simp only [Option.bind_some, if_true, ha]
  by_cases h1 : a0 % 1001 < 100
  · rw [if_pos h1, a2 h1]; rfl
  · rw [if_neg h1]
    by_cases h2 : a0 % 1001 > 960
    · rw [if_pos h2, a3 h2]; rfl
    · have := a4 (by omega) (by omega)
      rw [if_neg h2, if_pos (by omega), decide_eq_true (by omega)]

end Go.Proofs.Ytipoiifilnmagaa.Pure
