/- For every number, pilot.Duty and pilot.Amps return what the reference returns, said of the printed functions. No conditions of its own. -/
import Derived.Test.YtipoiifilnmagaaPPilotMatchesReferencex2
import Derived.OpenShut
namespace Go.Proofs.Ytipoiifilnmagaa.Pure
open Go.RowKit Go.Proofs.Ytipoiifilnmagaa.PPilotMatchesReference Go.Proofs.YtipoiifilnmagaaW.PrintWords Go.Proofs.YtipoiifilnmagaaW.PrintLast

theorem head_ok (k : Nat) : chargeparklaw11_head.f (k + 2) = some true := by rfl


theorem w_id (a : Int) (h : -9223372036854775808 ≤ a) (h' : a ≤ 9223372036854775807) : wrap64 a = a := by unfold wrap64; omega

theorem duty_ref (n : Int) : chargeparkref11_Duty.f n = some (Hand.dutyV n) := by
  unfold chargeparkref11_Duty.f chargeparkref11_Offered.f Hand.dutyV
  by_cases h0 : n = 0
  · simp [h0]
  · by_cases h6 : n < 6
    · have : ¬ 6 ≤ n := by omega
      simp [h0, h6, this]
    · by_cases h80 : 80 < n
      · rw [if_neg h0, if_pos (show n ≥ 6 by omega), decide_eq_false (show ¬ n ≤ 80 by omega)]
        simp only [Option.bind_some]
        rw [if_neg (by simp), if_neg h0, if_neg h6, if_pos h80]
      · rw [if_neg h0, if_pos (show n ≥ 6 by omega), decide_eq_true (show n ≤ 80 by omega)]
        simp only [Option.bind_some, if_true]
        rw [if_neg h0, if_neg h0, if_neg h6, if_neg h80]
        by_cases h51 : n ≤ 51
        · rw [if_pos h51, if_neg (show ¬ 52 ≤ n by omega), w_id (n * 1000) (by omega) (by omega), w_id (n * 1000 + 59) (by omega) (by omega), Int.tdiv_eq_ediv_of_nonneg (by omega), w_id _ (by omega) (by omega)]
        · rw [if_neg h51, if_pos (show 52 ≤ n by omega)]
          by_cases h52 : n = 52
          · rw [if_pos h52, if_pos h52]
          · rw [if_neg h52, if_neg h52, w_id (4 * n) (by omega) (by omega), w_id _ (by omega) (by omega)]

theorem amps_ref (k : Nat) (n : Int) : chargeparkref11_Amps.f (k + 2) n = some (Hand.ampsV n) := by
  unfold chargeparkref11_Amps.f Hand.ampsV
  by_cases h0 : n < 0
  · simp [h0, chargeparkref11_Amps.j0]
  · by_cases h1 : 1000 < n
    · simp [h0, h1, chargeparkref11_Amps.j0]
    · by_cases h2 : n < 100
      · simp [h0, h1, h2, chargeparkref11_Amps.j0, chargeparkref11_Amps.j1]
      · by_cases h3 : 960 < n
        · simp [h0, h1, h2, h3, chargeparkref11_Amps.j0, chargeparkref11_Amps.j1]
        · simp only [h0, h1, h2, h3, if_false, decide_false, chargeparkref11_Amps.j0, chargeparkref11_Amps.j1, Bool.false_eq_true]
          by_cases h4 : n ≤ 850
          · rw [if_pos h4, if_neg (by omega), w_id (n * 60) (by omega) (by omega), Int.tdiv_eq_ediv_of_nonneg (by omega), w_id _ (by omega) (by omega)]
          · rw [if_neg h4, if_pos (by omega), w_id (n - 640) (by omega) (by omega), Int.tdiv_eq_ediv_of_nonneg (by omega), w_id _ (by omega) (by omega)]

theorem PilotMatchesReference : chargeparklaw11_PilotMatchesReference.Pure := by
  intro a0 _
  refine ⟨2, ?_⟩
  unfold chargeparklaw11_PilotMatchesReference.f
  rw [head_ok 0, duty_ref, amps_ref 0]
  simp [pilot_Duty.f, pilot_Amps.f]

end Go.Proofs.Ytipoiifilnmagaa.Pure
