/- What the tied card's condition gives the walks of this seat: the cells of the table charger.after. No conditions. -/
import Derived.Test.YtnfanhnflcjphaaDoorRows
import Derived.Test.YtnfanhnflcjphaaDoorChargerTab
import Derived.ProofKit
import Derived.LaidMore
import Derived.OpenShut
import Derived.Stop.Joined
namespace Go.Proofs.YtnfanhnflcjphaaDoor.Laid
open Go.ChangeShapes Go.WideShapes Go.ChangeAt Go.WideMaps Go.WideElems Go.RowKit

def laid : List (String × DataW Unit) := [("chargepark/charger.after", Rows.laid_chargepark_charger_after)]
theorem gOf : Tryd.prog.globalNamed "chargepark/charger.after" = some 0 := by kernel_rfl
theorem tOf : (Tryd.prog.globals[0]?).map (·.type) = some 46 := by kernel_rfl

theorem door_met (os : Os) (args : Array Value) : laidMetH Tryd.prog laid ((World.doorLaid Tryd.prog 4000 os).forCall (fun _ _ => 0) ⟨#[], args, []⟩).memory :=
  laidMetH_of_parts3 (fuel := 8) (laidMet_of_run' 8 (by kernel_rfl) (by kernel_rfl)) (by kernel_rfl) (by kernel_rfl)

/-- A table of tables of whole numbers, opened. -/
theorem arr2 {H : Type} {enc : TypeId × Value → H} {P : Program} {w : World} {base : Nat} {spare : Nat → Bool} {held : Bool} {fuel : Nat} {t e1 e2 : TypeId} {n m : Nat} {cs : List Value} {x : DataW H × List MemPlace} {L : List (List Int)}
    (ht : P.underlying t = some (.array n e1)) (h1 : P.underlying e1 = some (.array m e2)) (h2 : P.underlying e2 = some (.int .i64)) (c1 : P.cellsOf e1 = m) (c2 : P.cellsOf e2 = 1)
    (h : DataW.trod enc P w base spare held fuel t cs = some x) (hx : x.1 = .agg (L.map fun r => .agg (r.map fun z => .lit (.int .i64 z)))) (i j : Nat) (hi : i < n) (hj : j < m) (z : Int) (hz : (L[i]?.bind (·[j]?)) = some z) : cs[i * m + j]? = some (.int .i64 z) := by
  obtain ⟨xs, q, rfl, rfl, _, hn, hel⟩ := DataW.trod_array ht h
  have hxs : xs.map (·.1) = L.map fun r => DataW.agg (r.map fun z => DataW.lit (.int .i64 z)) := by simpa using hx
  have hi' := hel i hi
  obtain ⟨r, hr, hz⟩ := Option.bind_eq_some_iff.1 hz
  have hxi : (xs.map (·.1))[i]? = some (DataW.agg (r.map fun z => DataW.lit (.int .i64 z))) := by rw [hxs]; simp [hr]
  rw [List.getElem?_map] at hxi
  obtain ⟨y, hy, hy1⟩ := Option.map_eq_some_iff.1 hxi
  rw [hy] at hi'
  obtain ⟨ys, q', rfl, rfl, _, hm, hel'⟩ := DataW.trod_array h1 hi'
  have hys : ys.map (·.1) = r.map fun z => DataW.lit (.int .i64 z) := by simpa using hy1
  have hj' := hel' j hj
  have hyj : (ys.map (·.1))[j]? = some (DataW.lit (.int .i64 z)) := by rw [hys]; simp [hz]
  rw [List.getElem?_map] at hyj
  obtain ⟨u, hu, hu1⟩ := Option.map_eq_some_iff.1 hyj
  rw [hu] at hj'
  obtain ⟨v, hv, hv1, _⟩ := DataW.trod_int h2 hj'
  have e : v = z := by rw [hv1] at hu1; simpa using hu1
  subst e
  rw [c1, c2, Nat.mul_one] at hv
  have h0 := congrArg (fun l : List Value => l[0]?) hv
  simp only [List.getElem?_take, List.getElem?_drop, List.getElem?_cons_zero] at h0
  simpa [hj] using h0

/-- The table. -/
def tab : List (List Int) := [[0, 0, 0, 0, 0, 0], [1, -1, -1, -1, -1, -1], [-1, 0, -1, -1, -1, 0], [-1, 2, -1, -1, -1, -1], [-1, -1, 3, -1, -1, -1], [-1, -1, -1, 4, -1, -1], [-1, -1, -1, -1, 1, -1], [0, 1, 2, 3, 4, 5], [0, 1, 2, 3, 4, 5], [0, 1, 1, 1, 1, 1]]
theorem tab_is : ∀ k p : Nat, 1 ≤ k → k ≤ 9 → p ≤ 5 → (tab[k]?.bind (·[p]?)) = some (Hand.stepT k p) := by
  have h : ((List.range 9).all fun k => (List.range 6).all fun p => decide ((tab[k + 1]?.bind (·[p]?)) = some (Hand.stepT ((k + 1 : Nat) : Int) p))) = true := by decide +kernel
  intro k p h1 h2 h3
  have a := List.all_eq_true.1 h (k - 1) (List.mem_range.2 (by omega))
  have b := of_decide_eq_true (List.all_eq_true.1 a p (List.mem_range.2 (by omega)))
  rw [show k - 1 + 1 = k by omega] at b
  exact b

theorem of_laid {W : World} (h : laidMetH Tryd.prog laid W) : Hand.G W := by
  rw [MakeChecks.laidMetH_plain _ _ _ (by kernel_rfl)] at h
  obtain ⟨ps, ⟨g0, t0, cs0, f0, p0, q0, hg0, ht0, hv0, hd0, _, _⟩, _, _⟩ := h
  obtain rfl := Option.some.inj (gOf.symm.trans hg0)
  obtain rfl := Option.some.inj (tOf.symm.trans ht0)
  have key : ∀ i j : Nat, i < 10 → j < 6 → ∀ z, (tab[i]?.bind (·[j]?)) = some z → W.cell? ⟨0, i * 6 + j, none⟩ = some (.int .i64 z) := fun i j hi hj z hz => by
    have h := arr2 (L := tab) Tryd.underlying46 Tryd.underlying45 Tryd.underlying3 (by kernel_rfl) (by kernel_rfl) hd0 rfl i j hi hj z hz
    have hc : W.cell? ⟨0, i * 6 + j, none⟩ = cs0[i * 6 + j]? := by simpa using World.var?_cell hg0 hv0 (i * 6 + j)
    rw [hc, ← Array.getElem?_toList]; exact h
  have k0 := key 0 0 (by decide) (by decide) 0 rfl
  exact ⟨World.block_lt_of_cell? _ _ k0, fun k p h1 h2 h3 => key k p (by omega) (by omega) _ (tab_is k p h1 h2 h3)⟩
end Go.Proofs.YtnfanhnflcjphaaDoor.Laid
