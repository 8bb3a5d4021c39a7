/- The table ramp.motions as cells of memory (block 0), and what ramp.Next answers in plain Lean. No conditions. -/
import Derived.Test.YtagphncpdhaklaaDoorProg
import Derived.Below
import Derived.Handy
namespace Go.Proofs.YtagphncpdhaklaaDoor.Hand
open Go.RowKit

/-- What the walks need of memory: the cells of the table. -/
structure G (w : World) : Prop where
  lt : 0 < w.heap.size
  c0 : w.cell? ⟨0, 0, none⟩ = some (.int .i64 0)
  c1 : w.cell? ⟨0, 1, none⟩ = some (.int .i64 1)
  c2 : w.cell? ⟨0, 2, none⟩ = some (.int .i64 2)
  c3 : w.cell? ⟨0, 3, none⟩ = some (.int .i64 3)

theorem G.below {w w' : World} (h : G w) (hb : Below w.heap.size w w') : G w' :=
  ⟨Nat.lt_of_lt_of_le h.lt hb.size, (hb.cell h.lt).trans h.c0, (hb.cell h.lt).trans h.c1, (hb.cell h.lt).trans h.c2, (hb.cell h.lt).trans h.c3⟩

/-- One more tick, at most 1000000. -/
def sinceV (n : Int) : Int := if 1000000 < n + 1 then 1000000 else n + 1

/-- The level below a current, of a charger with Min least, Max most and Step step. -/
def levelV (least most step a : Int) : Int := if a < least then 0 else if most < a then most - (most - least) % step else a - (a - least) % step

/-- The next ramp for the level below the wanted current. -/
def nextV (least step amps since level : Int) : Int × Int :=
  if amps = 0 then (if level = 0 then (0, sinceV since) else if since < 5 then (0, sinceV since) else (least, 0))
  else if level = 0 then (0, 0) else (if amps + step < level then amps + step else level, sinceV since)

end Go.Proofs.YtagphncpdhaklaaDoor.Hand
