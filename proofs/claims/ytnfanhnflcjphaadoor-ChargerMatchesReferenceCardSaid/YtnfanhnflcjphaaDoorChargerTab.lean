/- The table charger.after as cells of memory (block 0), the plain function that it is, and what charger.Step answers in plain Lean. No conditions. -/
import Derived.Test.YtnfanhnflcjphaaDoorProg
import Derived.Below
import Derived.Handy
namespace Go.Proofs.YtnfanhnflcjphaaDoor.Hand
open Go.RowKit

/-- The phase after an event of kind k in phase p; -1 if it is not possible. -/
def stepT (k p : Int) : Int :=
  if k = 1 then (if p = 0 then 1 else -1)
  else if k = 2 then (if p = 1 then 0 else if p = 5 then 0 else -1)
  else if k = 3 then (if p = 1 then 2 else -1)
  else if k = 4 then (if p = 2 then 3 else -1)
  else if k = 5 then (if p = 3 then 4 else -1)
  else if k = 6 then (if p = 4 then 1 else -1)
  else if k = 9 then (if p = 0 then 0 else 1)
  else p

/-- What the walks need of memory: the cells of the table. -/
structure G (w : World) : Prop where
  lt : 0 < w.heap.size
  cells : ∀ k p : Nat, 1 ≤ k → k ≤ 9 → p ≤ 5 → w.cell? ⟨0, k * 6 + p, none⟩ = some (.int .i64 (stepT k p))

theorem G.below {w w' : World} (h : G w) (hb : Below w.heap.size w w') : G w' :=
  ⟨Nat.lt_of_lt_of_le h.lt hb.size, fun k p h1 h2 h3 => by rw [hb.cell h.lt]; exact h.cells k p h1 h2 h3⟩

/-- The state after an event that is possible: T is the phase out of the table. -/
def stepW (T am lf : Int) (we : Bool) (k n m : Int) : Int × Int × Int × Bool :=
  if k = 7 then (if we = true then 5 else T, n, m, we)
  else if k = 8 then (if 1 < lf then (if we = true then 5 else T, am, lf - 1, we) else (if we = true then 5 else T, 0, 0, we))
  else if k = 9 then (if we = true then 5 else T, 0, 0, we)
  else if k = 6 then (if n = 1 then (5, am, lf, true) else if n = 2 then (5, am, lf, we) else (if we = true then 5 else T, am, lf, we))
  else if k = 4 then (if n = 0 then (5, am, lf, we) else (if we = true then 5 else T, am, lf, we))
  else (if we = true then 5 else T, am, lf, we)

/-- The state after an event that is not refused for its numbers, and the error. -/
def stepV (ph am lf : Int) (we : Bool) (k n m : Int) : Int × Int × Int × Bool × Int :=
  if stepT k ph = -1 then (0, 0, 0, false, 6)
  else ((stepW (stepT k ph) am lf we k n m).1, (stepW (stepT k ph) am lf we k n m).2.1, (stepW (stepT k ph) am lf we k n m).2.2.1, (stepW (stepT k ph) am lf we k n m).2.2.2, 0)

end Go.Proofs.YtnfanhnflcjphaaDoor.Hand
