/- chargeparklaw24.isLevel: is an amount a level of the charger? No conditions. -/
import Derived.Test.YtagphncpdhaklaaDoorPAllx9
import Derived.Test.YtagphncpdhaklaaDoorRampMore
namespace Go.Proofs.YtagphncpdhaklaaDoor.Plain
open Go.RowKit Go.Proofs.YtagphncpdhaklaaDoor.PAll Go.Proofs.YtagphncpdhaklaaDoorW.PrintWords Go.Proofs.YtagphncpdhaklaaDoorW.PrintLast Go.Proofs.YtagphncpdhaklaaDoorW.PrintMore
open Go.Proofs.YtagphncpdhaklaaDoor.Hand (levelV nextV sinceV)

section
variable {c3 c4 c5 : Int}
/-- Is the amount a level? -/
def isL (c3 c4 c5 a : Int) : Bool := decide (levelV c3 c4 c5 a = a)

theorem is_level (c0 : ByteArray) (c1 c2 c6 c7 : Int) (ok : Ok c3 c4 c5) (a : Int) (h0 : 0 ≤ a) (h1 : a ≤ 200) : chargeparklaw24_isLevel.f c0 c1 c2 c3 c4 c5 c6 c7 a = some (isL c3 c4 c5 a) := by
  have o := ok
  obtain ⟨o1, o2, o3, o4, o5⟩ := o
  unfold chargeparklaw24_isLevel.f isL
  by_cases e0 : a = 0
  · subst e0; rw [level_zero ok]; simp
  rw [if_neg e0]
  by_cases e1 : a < c3
  · have e2 := level_low (c4 := c4) (c5 := c5) a e1
    rw [decide_eq_false (by omega), if_neg (by omega)]
  rw [if_pos (show a ≥ c3 by omega)]
  by_cases e2 : c4 < a
  · have e3 := (level_in ok a).2.2
    rw [decide_eq_false (by omega), if_neg (by omega)]
  · rw [if_pos (show a ≤ c4 by omega), if_neg (by omega), w_id _ (by omega) (by omega), Int.tmod_eq_emod_of_nonneg (by omega)]
    have hh : ((a - c3) % c5 = 0) ↔ levelV c3 c4 c5 a = a := by
      unfold levelV; rw [if_neg e1, if_neg e2]; omega
    congr 1; rw [Bool.beq_eq_decide_eq]; exact decide_eq_decide.2 hh
end
end Go.Proofs.YtagphncpdhaklaaDoor.Plain
