/- A greater current has a greater duty cycle, and a greater duty cycle no lesser current, said of the printed functions. No conditions of its own. -/
import Derived.Test.YtipoiifilnmagaaPPilotOrderx1
import Derived.OpenShut
namespace Go.Proofs.Ytipoiifilnmagaa.Pure
open Go.RowKit Go.Proofs.Ytipoiifilnmagaa.PPilotOrder Go.Proofs.YtipoiifilnmagaaW.PrintWords Go.Proofs.YtipoiifilnmagaaW.PrintLast

theorem head_ok (k : Nat) : chargeparklaw11_head.f (k + 2) = some true := by rfl

theorem duty_ok (c : Int) (h : 6 ≤ c) (h' : c ≤ 80) : ∃ d, chargeparklaw11_duty.f c = some d ∧ 100 ≤ d ∧ d ≤ 960 ∧ ((c = 52 ∧ d = 851) ∨ (52 < c ∧ d = 4 * c + 640) ∨ (c < 52 ∧ d = (c * 1000 + 59) / 60)) := by
  by_cases h52 : 52 ≤ c
  · have e : Hand.dutyV c = (if c = 52 then 851 else 4 * c + 640, 0) := by unfold Hand.dutyV; rw [if_neg (by omega), if_neg (by omega), if_neg (by omega), if_pos h52]
    refine ⟨if c = 52 then 851 else 4 * c + 640, by simp [chargeparklaw11_duty.f, pilot_Duty.f, e], ?_⟩
    by_cases h2 : c = 52
    · rw [if_pos h2]; omega
    · rw [if_neg h2]; omega
  · have e : Hand.dutyV c = ((c * 1000 + 59) / 60, 0) := by unfold Hand.dutyV; rw [if_neg (by omega), if_neg (by omega), if_neg (by omega), if_neg h52]
    exact ⟨(c * 1000 + 59) / 60, by simp [chargeparklaw11_duty.f, pilot_Duty.f, e], by omega⟩

theorem amps_ok (d : Int) (h : 0 ≤ d) (h' : d ≤ 1000) : ∃ a, chargeparklaw11_amps.f d = some a ∧ 0 ≤ a ∧ (d < 100 → a = 0) ∧ (960 < d → a = 0) ∧ (100 ≤ d → d ≤ 960 → 6 ≤ a ∧ a ≤ 80 ∧ ((851 ≤ d ∧ a = (d - 640) / 4) ∨ (d ≤ 850 ∧ a = d * 60 / 1000))) := by
  by_cases h1 : d < 100
  · have e : Hand.ampsV d = (0, 0) := by unfold Hand.ampsV; rw [if_neg (by omega), if_neg (by omega), if_pos h1]
    exact ⟨0, by simp [chargeparklaw11_amps.f, pilot_Amps.f, e], by omega⟩
  by_cases h2 : 960 < d
  · have e : Hand.ampsV d = (0, 0) := by unfold Hand.ampsV; rw [if_neg (by omega), if_neg (by omega), if_neg h1, if_pos h2]
    exact ⟨0, by simp [chargeparklaw11_amps.f, pilot_Amps.f, e], by omega⟩
  by_cases h3 : 851 ≤ d
  · have e : Hand.ampsV d = ((d - 640) / 4, 0) := by unfold Hand.ampsV; rw [if_neg (by omega), if_neg (by omega), if_neg h1, if_neg h2, if_pos h3]
    exact ⟨(d - 640) / 4, by simp [chargeparklaw11_amps.f, pilot_Amps.f, e], by omega⟩
  · have e : Hand.ampsV d = (d * 60 / 1000, 0) := by unfold Hand.ampsV; rw [if_neg (by omega), if_neg (by omega), if_neg h1, if_neg h2, if_neg h3]
    exact ⟨d * 60 / 1000, by simp [chargeparklaw11_amps.f, pilot_Amps.f, e], by omega⟩

theorem u8_in (a : Int) (h : (Lit.int .u8 a).wf = true) : 0 ≤ a ∧ a ≤ 255 := bounds_u8 h
theorem u16_in (a : Int) (h : (Lit.int .u16 a).wf = true) : 0 ≤ a ∧ a ≤ 65535 := bounds_u16 h

theorem w_id (a : Int) (h : -9223372036854775808 ≤ a) (h' : a ≤ 9223372036854775807) : wrap64 a = a := by unfold wrap64; omega

theorem cur_ok (a : Int) (h : 0 ≤ a ∧ a ≤ 255) : ∃ c, chargeparklaw11_current.f a = some c ∧ 6 ≤ c ∧ c ≤ 80 := by
  refine ⟨6 + a % 75, ?_, by omega, by omega⟩
  unfold chargeparklaw11_current.f
  rw [w_id a (by omega) (by omega), Int.tmod_eq_emod_of_nonneg (by omega), w_id _ (by omega) (by omega)]

theorem cyc_ok (a : Int) (h : 0 ≤ a ∧ a ≤ 65535) : ∃ c, chargeparklaw11_cycle.f a = some c ∧ 100 ≤ c ∧ c ≤ 960 := by
  refine ⟨100 + a % 861, ?_, by omega, by omega⟩
  unfold chargeparklaw11_cycle.f
  rw [w_id a (by omega) (by omega), Int.tmod_eq_emod_of_nonneg (by omega), w_id _ (by omega) (by omega)]

theorem mn_is (a b : Int) : mn a b = min a b := by unfold mn; omega
theorem mx_is (a b : Int) : mx a b = max a b := by unfold mx; omega

theorem PilotOrder : chargeparklaw11_PilotOrder.Pure := by
  intro a0 a1 a2 a3 h0 h1 h2 h3
  obtain ⟨c, hc, c1, c2⟩ := cur_ok a0 (u8_in a0 h0)
  obtain ⟨d, hd, d1, d2⟩ := cur_ok a1 (u8_in a1 h1)
  obtain ⟨e, he, e1, e2⟩ := cyc_ok a2 (u16_in a2 h2)
  obtain ⟨f, hf, f1, f2⟩ := cyc_ok a3 (u16_in a3 h3)
  obtain ⟨x, hx, x1, x2, x3⟩ := duty_ok (min c d) (by omega) (by omega)
  obtain ⟨y, hy, y1, y2, y3⟩ := duty_ok (max c d) (by omega) (by omega)
  obtain ⟨u, hu, u1, u2, u3, u4⟩ := amps_ok (min e f) (by omega) (by omega)
  obtain ⟨v, hv, v1, v2, v3, v4⟩ := amps_ok (max e f) (by omega) (by omega)
  have u5 := u4 (by omega) (by omega)
  have v5 := v4 (by omega) (by omega)
  refine ⟨2, ?_⟩
  unfold chargeparklaw11_PilotOrder.f
  rw [head_ok 0]
  simp only [Option.bind_some, if_true, hc, hd, he, hf, mn_is, mx_is, hx, hy, hu, hv]
  have huv : u ≤ v := by omega
  by_cases hm : min c d = max c d
  · rw [if_pos hm, decide_eq_true huv]
  · rw [if_neg hm, if_pos (by omega), decide_eq_true huv]

end Go.Proofs.Ytipoiifilnmagaa.Pure
