/- What the Go functions of this seat's laws return, told as Lean functions and proved by their walks; laid by a program of this session out of Lean's own print of the translation. No conditions of its own. -/
import Derived.Test.YtagphncpdhaklaaDoorPAllx0
import Derived.Test.YtagphncpdhaklaaDoorPAllx4
import Derived.Test.YtagphncpdhaklaaDoorPAllx6
import Derived.Test.YtagphncpdhaklaaDoorPAllx7
import Derived.Test.YtagphncpdhaklaaDoorPAllx9
namespace Go.Proofs.YtagphncpdhaklaaDoor.PAll
open Go.RowKit Go.Proofs.YtagphncpdhaklaaDoorW.PrintWords Go.Proofs.YtagphncpdhaklaaDoorW.PrintLast Go.Proofs.YtagphncpdhaklaaDoorW.PrintMore
attribute [local go_sem] max2_int min2_int max_two min_two max_three min_three max_four min_four   -- for this text's walks alone
set_option linter.unusedVariables false
set_option linter.unusedSimpArgs false

/-! ### chargeparklaw24_RampNeverMore: function 4 -/
mutual
def chargeparklaw24_RampNeverMore.j0 : Nat → Int → Bool → Bool → ByteArray → Int → Int → Int → Int → Int → Int → Int → Int → Int → Option (Bool)
  | 0, _, _, _, _, _, _, _, _, _, _, _, _, _ => none
  | k + 1, x2, x7, x28, x211000, x211001, x211002, x211003, x211004, x211005, x211006, x211007, x212000, x212001 => if x28 = true then (some x7) else ((ramp_Next.f x211000 x211001 x211002 x211003 x211004 x211005 x211006 x211007 x212000 x212001 x2).bind fun bt213 => (if x212000 = 0 then (chargeparklaw24_RampNeverMore.j1 k x2 x7 bt213.2.2 x211003 x211000 x211001 x211002 x211003 x211004 x211005 x211006 x211007 x212000 x212001 bt213.1 bt213.2.1) else (chargeparklaw24_RampNeverMore.j1 k x2 x7 bt213.2.2 (wrap64 (x212000 + x211005)) x211000 x211001 x211002 x211003 x211004 x211005 x211006 x211007 x212000 x212001 bt213.1 bt213.2.1)))
def chargeparklaw24_RampNeverMore.j1 : Nat → Int → Bool → Int → Int → ByteArray → Int → Int → Int → Int → Int → Int → Int → Int → Int → Int → Int → Option (Bool)
  | 0, _, _, _, _, _, _, _, _, _, _, _, _, _, _, _, _ => none
  | k + 1, x2, x7, x10, x11, x211000, x211001, x211002, x211003, x211004, x211005, x211006, x211007, x212000, x212001, x217000, x217001 => chargeparklaw24_RampNeverMore.l0 k x2 x7 x10 x11 0 0 x211000 x211001 x211002 x211003 x211004 x211005 x211006 x211007 x212000 x212001 x217000 x217001
def chargeparklaw24_RampNeverMore.l0 : Nat → Int → Bool → Int → Int → Int → Int → ByteArray → Int → Int → Int → Int → Int → Int → Int → Int → Int → Int → Int → Option (Bool)
  | 0, _, _, _, _, _, _, _, _, _, _, _, _, _, _, _, _, _, _ => none
  | k + 1, x2, x7, x10, x11, x12, x13, x211000, x211001, x211002, x211003, x211004, x211005, x211006, x211007, x212000, x212001, x217000, x217001 => if x13 ≤ (mn x2 x11) then ((chargeparklaw24_isLevel.f x211000 x211001 x211002 x211003 x211004 x211005 x211006 x211007 x13).bind fun t217 => (if t217 = true then (chargeparklaw24_RampNeverMore.l0 k x2 x7 x10 x11 x13 (wrap64 (x13 + 1)) x211000 x211001 x211002 x211003 x211004 x211005 x211006 x211007 x212000 x212001 x217000 x217001) else (chargeparklaw24_RampNeverMore.l0 k x2 x7 x10 x11 x12 (wrap64 (x13 + 1)) x211000 x211001 x211002 x211003 x211004 x211005 x211006 x211007 x212000 x212001 x217000 x217001))) else (if x212000 = 0 then (if x212001 < 5 then (if x7 = true then (if x10 = 0 then ((chargeparklaw24_isLevel.f x211000 x211001 x211002 x211003 x211004 x211005 x211006 x211007 x217000).bind fun t218 => (if t218 = true then (if x217000 ≤ x2 then (if x217000 ≤ x11 then (if x217000 = x12 then (if x212001 ≥ 5 then (some true) else (some (x217000 == 0))) else (if x217000 = 0 then (if x212001 ≥ 5 then (some true) else (some (x217000 == 0))) else (some false))) else (some false)) else (some false)) else (some false))) else (some false)) else (some false)) else (if x7 = true then (if x10 = 0 then ((chargeparklaw24_isLevel.f x211000 x211001 x211002 x211003 x211004 x211005 x211006 x211007 x217000).bind fun t219 => (if t219 = true then (if x217000 ≤ x2 then (if x217000 ≤ x11 then (if x217000 = x12 then (if x212001 ≥ 5 then (some true) else (some (x217000 == 0))) else (some false)) else (some false)) else (some false)) else (some false))) else (some false)) else (some false))) else (if x7 = true then (if x10 = 0 then ((chargeparklaw24_isLevel.f x211000 x211001 x211002 x211003 x211004 x211005 x211006 x211007 x217000).bind fun t220 => (if t220 = true then (if x217000 ≤ x2 then (if x217000 ≤ x11 then (if x217000 = x12 then (some true) else (some false)) else (some false)) else (some false)) else (some false))) else (some false)) else (some false)))
end
def chargeparklaw24_RampNeverMore.f (k : Nat) (a0_0 : ByteArray) (a0_1 : Int) (a0_2 : Int) (a0_3 : Int) (a0_4 : Int) (a0_5 : Int) (a0_6 : Int) (a0_7 : Int) (a1_0 : Int) (a1_1 : Int) (a2 : Int) : Option (Bool) := (chargeparklaw24_head_c.f).bind fun _ => ((chargeparkref24_Valid.f k a0_0 a0_1 a0_2 a0_3 a0_4 a0_5 a0_6 a0_7 a1_0 a1_1).bind fun t212 => (if t212 = true then (if a2 < 0 then (chargeparklaw24_RampNeverMore.j0 k a2 true true a0_0 a0_1 a0_2 a0_3 a0_4 a0_5 a0_6 a0_7 a1_0 a1_1) else (chargeparklaw24_RampNeverMore.j0 k a2 true (decide (a2 > 80)) a0_0 a0_1 a0_2 a0_3 a0_4 a0_5 a0_6 a0_7 a1_0 a1_1)) else (chargeparklaw24_RampNeverMore.j0 k a2 true true a0_0 a0_1 a0_2 a0_3 a0_4 a0_5 a0_6 a0_7 a1_0 a1_1)))
theorem chargeparklaw24_RampNeverMore.mono_l : ∀ k, (∀ y0 y1 y2 y3 y4 y5 y6 y7 y8 y9 y10 y11 y12, LeO (chargeparklaw24_RampNeverMore.j0 k y0 y1 y2 y3 y4 y5 y6 y7 y8 y9 y10 y11 y12) (chargeparklaw24_RampNeverMore.j0 (k + 1) y0 y1 y2 y3 y4 y5 y6 y7 y8 y9 y10 y11 y12)) ∧ (∀ y0 y1 y2 y3 y4 y5 y6 y7 y8 y9 y10 y11 y12 y13 y14 y15, LeO (chargeparklaw24_RampNeverMore.j1 k y0 y1 y2 y3 y4 y5 y6 y7 y8 y9 y10 y11 y12 y13 y14 y15) (chargeparklaw24_RampNeverMore.j1 (k + 1) y0 y1 y2 y3 y4 y5 y6 y7 y8 y9 y10 y11 y12 y13 y14 y15)) ∧ (∀ y0 y1 y2 y3 y4 y5 y6 y7 y8 y9 y10 y11 y12 y13 y14 y15 y16 y17, LeO (chargeparklaw24_RampNeverMore.l0 k y0 y1 y2 y3 y4 y5 y6 y7 y8 y9 y10 y11 y12 y13 y14 y15 y16 y17) (chargeparklaw24_RampNeverMore.l0 (k + 1) y0 y1 y2 y3 y4 y5 y6 y7 y8 y9 y10 y11 y12 y13 y14 y15 y16 y17))
  | 0 => ⟨fun _ _ _ _ _ _ _ _ _ _ _ _ _ r h => by simp [chargeparklaw24_RampNeverMore.j0] at h, fun _ _ _ _ _ _ _ _ _ _ _ _ _ _ _ _ r h => by simp [chargeparklaw24_RampNeverMore.j1] at h, fun _ _ _ _ _ _ _ _ _ _ _ _ _ _ _ _ _ _ r h => by simp [chargeparklaw24_RampNeverMore.l0] at h⟩
  | k + 1 => by
    obtain ⟨ih0, ih1, ih2⟩ := chargeparklaw24_RampNeverMore.mono_l k
    refine ⟨?_, ?_, ?_⟩
    · intro y0 y1 y2 y3 y4 y5 y6 y7 y8 y9 y10 y11 y12
      unfold chargeparklaw24_RampNeverMore.j0
      repeat' first
      | (with_reducible exact ih0 _ _ _ _ _ _ _ _ _ _ _ _ _)
      | (with_reducible exact ih1 _ _ _ _ _ _ _ _ _ _ _ _ _ _ _ _)
      | (with_reducible exact ih2 _ _ _ _ _ _ _ _ _ _ _ _ _ _ _ _ _ _)
      | (with_reducible exact chargeparkref24_Valid.mono _ _ _ _ _ _ _ _ _ _ _)
      | (with_reducible exact LeO.refl _)
      | (with_reducible exact LeO.none _)
      | (with_reducible refine LeO.ite ?_ ?_)
      | (with_reducible refine LeO.bind ?_ (fun _ => ?_))
      | exact ih0 _ _ _ _ _ _ _ _ _ _ _ _ _
      | exact ih1 _ _ _ _ _ _ _ _ _ _ _ _ _ _ _ _
      | exact ih2 _ _ _ _ _ _ _ _ _ _ _ _ _ _ _ _ _ _
      | exact chargeparkref24_Valid.mono _ _ _ _ _ _ _ _ _ _ _
      | exact LeO.none _
      | refine LeO.ite ?_ ?_
      | refine LeO.bind ?_ (fun _ => ?_)
    · intro y0 y1 y2 y3 y4 y5 y6 y7 y8 y9 y10 y11 y12 y13 y14 y15
      unfold chargeparklaw24_RampNeverMore.j1
      repeat' first
      | (with_reducible exact ih0 _ _ _ _ _ _ _ _ _ _ _ _ _)
      | (with_reducible exact ih1 _ _ _ _ _ _ _ _ _ _ _ _ _ _ _ _)
      | (with_reducible exact ih2 _ _ _ _ _ _ _ _ _ _ _ _ _ _ _ _ _ _)
      | (with_reducible exact chargeparkref24_Valid.mono _ _ _ _ _ _ _ _ _ _ _)
      | (with_reducible exact LeO.refl _)
      | (with_reducible exact LeO.none _)
      | (with_reducible refine LeO.ite ?_ ?_)
      | (with_reducible refine LeO.bind ?_ (fun _ => ?_))
      | exact ih0 _ _ _ _ _ _ _ _ _ _ _ _ _
      | exact ih1 _ _ _ _ _ _ _ _ _ _ _ _ _ _ _ _
      | exact ih2 _ _ _ _ _ _ _ _ _ _ _ _ _ _ _ _ _ _
      | exact chargeparkref24_Valid.mono _ _ _ _ _ _ _ _ _ _ _
      | exact LeO.none _
      | refine LeO.ite ?_ ?_
      | refine LeO.bind ?_ (fun _ => ?_)
    · intro y0 y1 y2 y3 y4 y5 y6 y7 y8 y9 y10 y11 y12 y13 y14 y15 y16 y17
      unfold chargeparklaw24_RampNeverMore.l0
      repeat' first
      | (with_reducible exact ih0 _ _ _ _ _ _ _ _ _ _ _ _ _)
      | (with_reducible exact ih1 _ _ _ _ _ _ _ _ _ _ _ _ _ _ _ _)
      | (with_reducible exact ih2 _ _ _ _ _ _ _ _ _ _ _ _ _ _ _ _ _ _)
      | (with_reducible exact chargeparkref24_Valid.mono _ _ _ _ _ _ _ _ _ _ _)
      | (with_reducible exact LeO.refl _)
      | (with_reducible exact LeO.none _)
      | (with_reducible refine LeO.ite ?_ ?_)
      | (with_reducible refine LeO.bind ?_ (fun _ => ?_))
      | exact ih0 _ _ _ _ _ _ _ _ _ _ _ _ _
      | exact ih1 _ _ _ _ _ _ _ _ _ _ _ _ _ _ _ _
      | exact ih2 _ _ _ _ _ _ _ _ _ _ _ _ _ _ _ _ _ _
      | exact chargeparkref24_Valid.mono _ _ _ _ _ _ _ _ _ _ _
      | exact LeO.none _
      | refine LeO.ite ?_ ?_
      | refine LeO.bind ?_ (fun _ => ?_)
theorem chargeparklaw24_RampNeverMore.mono : ∀ a0 a1 a2 a3 a4 a5 a6 a7 a8 a9 a10 k, LeO (chargeparklaw24_RampNeverMore.f k a0 a1 a2 a3 a4 a5 a6 a7 a8 a9 a10) (chargeparklaw24_RampNeverMore.f (k + 1) a0 a1 a2 a3 a4 a5 a6 a7 a8 a9 a10) := by
  intro a0 a1 a2 a3 a4 a5 a6 a7 a8 a9 a10 k
  obtain ⟨ih0, ih1, ih2⟩ := chargeparklaw24_RampNeverMore.mono_l k
  unfold chargeparklaw24_RampNeverMore.f
  repeat' first
      | (with_reducible exact ih0 _ _ _ _ _ _ _ _ _ _ _ _ _)
      | (with_reducible exact ih1 _ _ _ _ _ _ _ _ _ _ _ _ _ _ _ _)
      | (with_reducible exact ih2 _ _ _ _ _ _ _ _ _ _ _ _ _ _ _ _ _ _)
      | (with_reducible exact chargeparkref24_Valid.mono _ _ _ _ _ _ _ _ _ _ _)
      | (with_reducible exact LeO.refl _)
      | (with_reducible exact LeO.none _)
      | (with_reducible refine LeO.ite ?_ ?_)
      | (with_reducible refine LeO.bind ?_ (fun _ => ?_))
      | exact ih0 _ _ _ _ _ _ _ _ _ _ _ _ _
      | exact ih1 _ _ _ _ _ _ _ _ _ _ _ _ _ _ _ _
      | exact ih2 _ _ _ _ _ _ _ _ _ _ _ _ _ _ _ _ _ _
      | exact chargeparkref24_Valid.mono _ _ _ _ _ _ _ _ _ _ _
      | exact LeO.none _
      | refine LeO.ite ?_ ?_
      | refine LeO.bind ?_ (fun _ => ?_)
set_option maxHeartbeats 8000000 in
set_option maxRecDepth 100000 in
theorem chargeparklaw24_RampNeverMore.calls (k : Nat) (a0_0 : ByteArray) (a0_1 : Int) (a0_2 : Int) (a0_3 : Int) (a0_4 : Int) (a0_5 : Int) (a0_6 : Int) (a0_7 : Int) (a1_0 : Int) (a1_1 : Int) (a2 : Int) (r : Bool) (w : World) (hG : Hand.G w) (h : chargeparklaw24_RampNeverMore.f k a0_0 a0_1 a0_2 a0_3 a0_4 a0_5 a0_6 a0_7 a1_0 a1_1 a2 = some r) (hr : Aside0 (r = true)) :
    Calls Tryd.prog 4 #[.agg #[.string a0_0, .int .i64 a0_1, .int .i64 a0_2, .int .i64 a0_3, .int .i64 a0_4, .int .i64 a0_5, .int .i64 a0_6, .int .i64 a0_7], .agg #[.int .i64 a1_0, .int .i64 a1_1], .int .i64 a2] w fun e w' => e = .returned (.bool r) ∧ Below w.heap.size w w' := by
  have hu23 := Tryd.underlying23
  have hu25 := Tryd.underlying25
  have HB := Aside0.mk (Below.refl w.heap.size w)
  have H : ((chargeparklaw24_head_c.f).bind fun _ => ((chargeparkref24_Valid.f k a0_0 a0_1 a0_2 a0_3 a0_4 a0_5 a0_6 a0_7 a1_0 a1_1).bind fun t212 => (if t212 = true then (if a2 < 0 then (chargeparklaw24_RampNeverMore.j0 k a2 true true a0_0 a0_1 a0_2 a0_3 a0_4 a0_5 a0_6 a0_7 a1_0 a1_1) else (chargeparklaw24_RampNeverMore.j0 k a2 true (decide (a2 > 80)) a0_0 a0_1 a0_2 a0_3 a0_4 a0_5 a0_6 a0_7 a1_0 a1_1)) else (chargeparklaw24_RampNeverMore.j0 k a2 true true a0_0 a0_1 a0_2 a0_3 a0_4 a0_5 a0_6 a0_7 a1_0 a1_1)))) = some r := h
  clear h
  replace H := Option.bind_eq_some_iff.mp H
  obtain ⟨tc_, A40, H⟩ := H
  obtain rfl : true = tc_ := Option.some.inj ((show chargeparklaw24_head_c.f = some true by kernel_rfl).symm.trans A40)
  replace H : ((chargeparkref24_Valid.f k a0_0 a0_1 a0_2 a0_3 a0_4 a0_5 a0_6 a0_7 a1_0 a1_1).bind fun t212 => (if t212 = true then (if a2 < 0 then (chargeparklaw24_RampNeverMore.j0 k a2 true true a0_0 a0_1 a0_2 a0_3 a0_4 a0_5 a0_6 a0_7 a1_0 a1_1) else (chargeparklaw24_RampNeverMore.j0 k a2 true (decide (a2 > 80)) a0_0 a0_1 a0_2 a0_3 a0_4 a0_5 a0_6 a0_7 a1_0 a1_1)) else (chargeparklaw24_RampNeverMore.j0 k a2 true true a0_0 a0_1 a0_2 a0_3 a0_4 a0_5 a0_6 a0_7 a1_0 a1_1))) = some r := H
  have A4 := Aside0.mk A40
  clear A40
  replace H := Option.bind_eq_some_iff.mp H
  obtain ⟨t212, A50, H⟩ := H
  replace H : (if t212 = true then (if a2 < 0 then (chargeparklaw24_RampNeverMore.j0 k a2 true true a0_0 a0_1 a0_2 a0_3 a0_4 a0_5 a0_6 a0_7 a1_0 a1_1) else (chargeparklaw24_RampNeverMore.j0 k a2 true (decide (a2 > 80)) a0_0 a0_1 a0_2 a0_3 a0_4 a0_5 a0_6 a0_7 a1_0 a1_1)) else (chargeparklaw24_RampNeverMore.j0 k a2 true true a0_0 a0_1 a0_2 a0_3 a0_4 a0_5 a0_6 a0_7 a1_0 a1_1)) = some r := H
  have A5 := Aside0.mk A50
  clear A50
  have HC6 := Aside0.mk H
  clear H
  go_enter Tryd.func4, Tryd.ntmps4
  go_upto_region 3 with (first | ((with_reducible refine gate_dst (N := 3) rfl ?_); refine box_event ?hg (N := 3) ?hd (cs := #[.string a0_0, .int .i64 a0_1, .int .i64 a0_2, .int .i64 a0_3, .int .i64 a0_4, .int .i64 a0_5, .int .i64 a0_6, .int .i64 a0_7]) (t := 23) ?hr ?_; (case hd => rfl); (case hg => rfl); (case hr => first | (go_simp; done) | (go_simp; rfl)); intro gb210 hg w7 hbox hb; have n0_ := Aside0.mk (below_step (by repeat (first | (with_reducible first | exact HB.out | apply below_alloc | apply pw_below_drewN | apply below_drew1) | exact HB.out)) hb); have n1_ := Aside0.mk (hbox); have n2_ := Aside0.mk ((by rw [hg]; exact (below_size (by repeat (first | (with_reducible first | exact HB.out | apply below_alloc | apply pw_below_drewN | apply below_drew1) | exact HB.out))) : w.heap.size ≤ gb210)); have n3_ := Aside0.mk ((by rw [hg]; exact (below_size (by repeat (first | (with_reducible first | exact HB.out | apply below_alloc | apply pw_below_drewN | apply below_drew1) | exact HB.out))) : w.heap.size ≤ gb210)); clear HB; have HB := n0_; have BK210 := n1_; have GW210 := n2_; have GE210 := n3_; clear n0_ n1_ n2_ n3_; clear hb hbox hg) | ((with_reducible refine gate_dst (N := 4) rfl ?_); refine box_event ?hg (N := 4) ?hd (cs := #[.int .i64 a1_0, .int .i64 a1_1]) (t := 25) ?hr ?_; (case hd => rfl); (case hg => rfl); (case hr => first | (go_simp; done) | (go_simp; rfl)); intro gb211 hg w8 hbox hb; have n0_ := Aside0.mk (blk_below (g := gb210) (o := .cells #[.string a0_0, .int .i64 a0_1, .int .i64 a0_2, .int .i64 a0_3, .int .i64 a0_4, .int .i64 a0_5, .int .i64 a0_6, .int .i64 a0_7] 23 (0, 0)) (by (with_reducible repeat (first | refine blk_drewN ?_ _ | refine blk_drew ?_ | refine blk_alloc ?_ _)); exact BK210.out) hb); have n1_ := Aside0.mk (below_step (by repeat (first | (with_reducible first | exact HB.out | apply below_alloc | apply pw_below_drewN | apply below_drew1 | refine below_set ?_ GE210.out) | exact HB.out)) hb); have n2_ := Aside0.mk (hbox); have n3_ := Aside0.mk ((by rw [hg]; exact (below_size (by repeat (first | (with_reducible first | exact HB.out | apply below_alloc | apply pw_below_drewN | apply below_drew1 | refine below_set ?_ GE210.out) | exact HB.out))) : w.heap.size ≤ gb211)); have n4_ := Aside0.mk ((by rw [hg]; exact (below_size (by repeat (first | (with_reducible first | exact HB.out | apply below_alloc | apply pw_below_drewN | apply below_drew1 | refine below_set ?_ GE210.out) | exact HB.out))) : w.heap.size ≤ gb211)); have n5_ := Aside0.mk ((by rw [hg]; exact Nat.ne_of_lt (blk_lt (g := gb210) (o := .cells #[.string a0_0, .int .i64 a0_1, .int .i64 a0_2, .int .i64 a0_3, .int .i64 a0_4, .int .i64 a0_5, .int .i64 a0_6, .int .i64 a0_7] 23 (0, 0)) (by (with_reducible repeat (first | refine blk_drewN ?_ _ | refine blk_drew ?_ | refine blk_alloc ?_ _)); exact BK210.out)) : gb210 ≠ gb211)); have n6_ := Aside0.mk ((by rw [hg]; exact Nat.ne_of_gt (blk_lt (g := gb210) (o := .cells #[.string a0_0, .int .i64 a0_1, .int .i64 a0_2, .int .i64 a0_3, .int .i64 a0_4, .int .i64 a0_5, .int .i64 a0_6, .int .i64 a0_7] 23 (0, 0)) (by (with_reducible repeat (first | refine blk_drewN ?_ _ | refine blk_drew ?_ | refine blk_alloc ?_ _)); exact BK210.out)) : gb211 ≠ gb210)); clear BK210; clear HB; have BK210 := n0_; have HB := n1_; have BK211 := n2_; have GW211 := n3_; have GE211 := n4_; have NB210_211 := n5_; have NB211_210 := n6_; clear n0_ n1_ n2_ n3_ n4_ n5_ n6_; clear hb hbox hg) | ((with_reducible refine gate_callee (f := 9) rfl ?_); refine goesL_ (some 15) rfl rfl Tryd.func9 (by kernel_rfl) rfl #[] rfl (by (try simp only [List.map_toArray, List.map_cons, List.map_nil]); first | done | rfl | (simp only [List.length_drop, List.length_take]; rfl)) ?_; (with_reducible refine (chargeparklaw24_head_c.calls  true _ (hG.below (by repeat (first | (with_reducible first | exact HB.out | apply below_alloc | apply pw_below_drewN | apply below_drew1) | exact HB.out))) A4.out).mono ?_); rintro e w9 ⟨rfl, hb⟩; refine ⟨_, rfl, ?_⟩; have n0_ := Aside0.mk (blk_below (g := gb210) (o := .cells #[.string a0_0, .int .i64 a0_1, .int .i64 a0_2, .int .i64 a0_3, .int .i64 a0_4, .int .i64 a0_5, .int .i64 a0_6, .int .i64 a0_7] 23 (0, 0)) (by (with_reducible repeat (first | refine blk_drewN ?_ _ | refine blk_drew ?_ | refine blk_alloc ?_ _)); exact BK210.out) hb); have n1_ := Aside0.mk (blk_below (g := gb211) (o := .cells #[.int .i64 a1_0, .int .i64 a1_1] 25 (0, 0)) (by (with_reducible repeat (first | refine blk_drewN ?_ _ | refine blk_drew ?_ | refine blk_alloc ?_ _)); exact BK211.out) hb); have n2_ := Aside0.mk (below_step (by repeat (first | (with_reducible first | exact HB.out | apply below_alloc | apply pw_below_drewN | apply below_drew1 | refine below_set ?_ GE210.out | refine below_set ?_ GE211.out) | exact HB.out)) hb); clear BK210; clear BK211; clear HB; have BK210 := n0_; have BK211 := n1_; have HB := n2_; clear n0_ n1_ n2_; (try clear hb); (try clear hb2); (try clear hk); (try clear hi); have hnb10 := NB210_211.out; have hnc10 := NB211_210.out; have hcz11_0 : w9.cell? ⟨gb210, 0, none⟩ = some (.string a0_0) := (blk_cell BK210.out 0).trans rfl; have hcz11_1 : w9.cell? ⟨gb210, 1, none⟩ = some (.int .i64 a0_1) := (blk_cell BK210.out 1).trans rfl; have hcz11_2 : w9.cell? ⟨gb210, 2, none⟩ = some (.int .i64 a0_2) := (blk_cell BK210.out 2).trans rfl; have hcz11_3 : w9.cell? ⟨gb210, 3, none⟩ = some (.int .i64 a0_3) := (blk_cell BK210.out 3).trans rfl; have hcz11_4 : w9.cell? ⟨gb210, 4, none⟩ = some (.int .i64 a0_4) := (blk_cell BK210.out 4).trans rfl; have hcz11_5 : w9.cell? ⟨gb210, 5, none⟩ = some (.int .i64 a0_5) := (blk_cell BK210.out 5).trans rfl; have hcz11_6 : w9.cell? ⟨gb210, 6, none⟩ = some (.int .i64 a0_6) := (blk_cell BK210.out 6).trans rfl; have hcz11_7 : w9.cell? ⟨gb210, 7, none⟩ = some (.int .i64 a0_7) := (blk_cell BK210.out 7).trans rfl; have hfz11_0 := blk_frozen BK210.out 0; have hfz11_1 := blk_frozen BK210.out 1; have hfz11_2 := blk_frozen BK210.out 2; have hfz11_3 := blk_frozen BK210.out 3; have hfz11_4 := blk_frozen BK210.out 4; have hfz11_5 := blk_frozen BK210.out 5; have hfz11_6 := blk_frozen BK210.out 6; have hfz11_7 := blk_frozen BK210.out 7; have hcz12_0 : w9.cell? ⟨gb211, 0, none⟩ = some (.int .i64 a1_0) := (blk_cell BK211.out 0).trans rfl; have hcz12_1 : w9.cell? ⟨gb211, 1, none⟩ = some (.int .i64 a1_1) := (blk_cell BK211.out 1).trans rfl; have hfz12_0 := blk_frozen BK211.out 0; have hfz12_1 := blk_frozen BK211.out 1) | ((with_reducible refine gate_callee (f := 13) rfl ?_); refine goesL_ (some 18) rfl rfl Tryd.func13 (by kernel_rfl) rfl #[.agg #[.string a0_0, .int .i64 a0_1, .int .i64 a0_2, .int .i64 a0_3, .int .i64 a0_4, .int .i64 a0_5, .int .i64 a0_6, .int .i64 a0_7], .agg #[.int .i64 a1_0, .int .i64 a1_1]] rfl (by (try simp only [List.map_toArray, List.map_cons, List.map_nil]); first | done | rfl | (simp only [List.length_drop, List.length_take]; rfl)) ?_; (with_reducible refine (chargeparkref24_Valid.calls k a0_0 a0_1 a0_2 a0_3 a0_4 a0_5 a0_6 a0_7 a1_0 a1_1 t212 _ A5.out).mono ?_); rintro e w13 ⟨rfl, hb⟩; refine ⟨_, rfl, ?_⟩; have n0_ := Aside0.mk (blk_below (g := gb210) (o := .cells #[.string a0_0, .int .i64 a0_1, .int .i64 a0_2, .int .i64 a0_3, .int .i64 a0_4, .int .i64 a0_5, .int .i64 a0_6, .int .i64 a0_7] 23 (0, 0)) (by (with_reducible repeat (first | refine blk_drewN ?_ _ | refine blk_drew ?_ | refine blk_alloc ?_ _)); exact BK210.out) hb); have n1_ := Aside0.mk (blk_below (g := gb211) (o := .cells #[.int .i64 a1_0, .int .i64 a1_1] 25 (0, 0)) (by (with_reducible repeat (first | refine blk_drewN ?_ _ | refine blk_drew ?_ | refine blk_alloc ?_ _)); exact BK211.out) hb); have n2_ := Aside0.mk (below_step (by repeat (first | (with_reducible first | exact HB.out | apply below_alloc | apply pw_below_drewN | apply below_drew1 | refine below_set ?_ GE210.out | refine below_set ?_ GE211.out) | exact HB.out)) hb); clear BK210; clear BK211; clear HB; have BK210 := n0_; have BK211 := n1_; have HB := n2_; clear n0_ n1_ n2_; (try clear hb); (try clear hb2); (try clear hk); (try clear hi)))
  (try simp only [Act.put, List.setIfInBounds_toArray, List.set_cons_zero, List.set_cons_succ])
  go_cut [28] (fun v28 wc => ∃ (kq : Nat) (x28_5 : Bool), v28 = .bool x28_5 ∧ Aside0 (chargeparklaw24_RampNeverMore.j0 kq a2 true x28_5 a0_0 a0_1 a0_2 a0_3 a0_4 a0_5 a0_6 a0_7 a1_0 a1_1 = some r) ∧ Aside0 (kq ≤ k) ∧ Aside0 (wc.heap[gb210]? = some (.cells #[.string a0_0, .int .i64 a0_1, .int .i64 a0_2, .int .i64 a0_3, .int .i64 a0_4, .int .i64 a0_5, .int .i64 a0_6, .int .i64 a0_7] 23 (0, 0))) ∧ Aside0 (wc.heap[gb211]? = some (.cells #[.int .i64 a1_0, .int .i64 a1_1] 25 (0, 0))) ∧ Aside0 (Below w.heap.size w wc))
  case first =>
    have H := HC6.out
    clear HC6
    by_cases c14 : t212 = true
    · subst c14
      have H1 : (if a2 < 0 then (chargeparklaw24_RampNeverMore.j0 k a2 true true a0_0 a0_1 a0_2 a0_3 a0_4 a0_5 a0_6 a0_7 a1_0 a1_1) else (chargeparklaw24_RampNeverMore.j0 k a2 true (decide (a2 > 80)) a0_0 a0_1 a0_2 a0_3 a0_4 a0_5 a0_6 a0_7 a1_0 a1_1)) = some r := by rw [if_pos rfl] at H; exact H
      clear H
      have H := H1
      clear H1
      by_cases c15 : a2 < 0
      · rw [if_pos c15] at H
        have c15b0 : decide (a2 < 0) = true := decide_eq_true c15
        clear c15
        (first | rw [c15b0] | (simp only [i64_w, i32_w]; rw [c15b0]) | skip)
        have H' := Aside0.mk H
        clear H
        go_wp2
        go_meet
        case rel => exact ⟨_, (true), (by first | rfl | (simp; done) | (simp [*]; done)), H', ⟨by first | omega | exact Nat.le_refl _⟩, ⟨by (with_reducible repeat (first | refine blk_drewN ?_ _ | refine blk_drew ?_ | refine blk_alloc ?_ _)); exact BK210.out⟩, ⟨by (with_reducible repeat (first | refine blk_drewN ?_ _ | refine blk_drew ?_ | refine blk_alloc ?_ _)); exact BK211.out⟩, ⟨by repeat (first | (with_reducible first | exact HB.out | apply below_alloc | apply pw_below_drewN | apply below_drew1 | refine below_set ?_ GE210.out | refine below_set ?_ GE211.out) | exact HB.out)⟩⟩
      · rw [if_neg c15] at H
        have c15b0 : decide (a2 < 0) = false := decide_eq_false c15
        clear c15
        (first | rw [c15b0] | (simp only [i64_w, i32_w]; rw [c15b0]) | skip)
        have H' := Aside0.mk H
        clear H
        go_wp2
        go_meet
        case rel => exact ⟨_, (decide (a2 > 80)), (by first | rfl | (simp; done) | (simp [*]; done)), H', ⟨by first | omega | exact Nat.le_refl _⟩, ⟨by (with_reducible repeat (first | refine blk_drewN ?_ _ | refine blk_drew ?_ | refine blk_alloc ?_ _)); exact BK210.out⟩, ⟨by (with_reducible repeat (first | refine blk_drewN ?_ _ | refine blk_drew ?_ | refine blk_alloc ?_ _)); exact BK211.out⟩, ⟨by repeat (first | (with_reducible first | exact HB.out | apply below_alloc | apply pw_below_drewN | apply below_drew1 | refine below_set ?_ GE210.out | refine below_set ?_ GE211.out) | exact HB.out)⟩⟩
    · replace c14 := Bool.eq_false_iff.mpr c14
      subst c14
      have H1 : (chargeparklaw24_RampNeverMore.j0 k a2 true true a0_0 a0_1 a0_2 a0_3 a0_4 a0_5 a0_6 a0_7 a1_0 a1_1) = some r := by rw [if_neg (show ¬ (false = true) by decide)] at H; exact H
      clear H
      have H := H1
      clear H1
      have H' := Aside0.mk H
      clear H
      go_wp2
      go_meet
      case rel => exact ⟨_, (true), (by first | rfl | (simp; done) | (simp [*]; done)), H', ⟨by first | omega | exact Nat.le_refl _⟩, ⟨by (with_reducible repeat (first | refine blk_drewN ?_ _ | refine blk_drew ?_ | refine blk_alloc ?_ _)); exact BK210.out⟩, ⟨by (with_reducible repeat (first | refine blk_drewN ?_ _ | refine blk_drew ?_ | refine blk_alloc ?_ _)); exact BK211.out⟩, ⟨by repeat (first | (with_reducible first | exact HB.out | apply below_alloc | apply pw_below_drewN | apply below_drew1 | refine below_set ?_ GE210.out | refine below_set ?_ GE211.out) | exact HB.out)⟩⟩
  case rest =>
    clear HC6
    try clear c1
    try clear p2
    try clear c4
    try clear c9
    try clear c10
    try clear c13
    try clear c14
    try clear c15
    try clear c15b0
    try clear hcz11_0
    try clear hcz11_1
    try clear hcz11_2
    try clear hcz11_3
    try clear hcz11_4
    try clear hcz11_5
    try clear hcz11_6
    try clear hcz11_7
    try clear hcz12_0
    try clear hcz12_1
    try clear hfz11_0
    try clear hfz11_1
    try clear hfz11_2
    try clear hfz11_3
    try clear hfz11_4
    try clear hfz11_5
    try clear hfz11_6
    try clear hfz11_7
    try clear hfz12_0
    try clear hfz12_1
    obtain ⟨kq, x28_5, rfl, HA, HJ5, BK210, BK211, HB⟩ := hcut
    cases kq with
    | zero => exact absurd HA.out (by simp [chargeparklaw24_RampNeverMore.j0])
    | succ kj5 =>
      have H := HA.out
      clear HA
      simp only [chargeparklaw24_RampNeverMore.j0] at H
      by_cases c16 : x28_5 = true
      · subst c16
        have H1 : (some true) = some r := by rw [if_pos rfl] at H; exact H
        clear H
        have H := H1
        clear H1
        obtain rfl := Option.some.inj H
        simp only [Option.some.injEq, Prod.mk.injEq] at H
        obtain ⟨rfl⟩ := H
        go_wp2
        go_ret
        exact ⟨by first | rfl | (simp [errW_none, errW_some] <;> rfl) | (simp [*, errW_none, errW_some] <;> rfl), by repeat (first | (with_reducible first | exact HB.out | apply below_alloc | apply pw_below_drewN | apply below_drew1 | refine below_set ?_ GE210.out | refine below_set ?_ GE211.out) | exact HB.out)⟩
      · replace c16 := Bool.eq_false_iff.mpr c16
        subst c16
        have H1 : ((ramp_Next.f a0_0 a0_1 a0_2 a0_3 a0_4 a0_5 a0_6 a0_7 a1_0 a1_1 a2).bind fun bt213 => (if a1_0 = 0 then (chargeparklaw24_RampNeverMore.j1 kj5 a2 true bt213.2.2 a0_3 a0_0 a0_1 a0_2 a0_3 a0_4 a0_5 a0_6 a0_7 a1_0 a1_1 bt213.1 bt213.2.1) else (chargeparklaw24_RampNeverMore.j1 kj5 a2 true bt213.2.2 (wrap64 (a1_0 + a0_5)) a0_0 a0_1 a0_2 a0_3 a0_4 a0_5 a0_6 a0_7 a1_0 a1_1 bt213.1 bt213.2.1))) = some r := by rw [if_neg (show ¬ (false = true) by decide)] at H; exact H
        clear H
        have H := H1
        clear H1
        replace H := Option.bind_eq_some_iff.mp H
        obtain ⟨⟨t213, t214, t215⟩, A170, H⟩ := H
        replace H : (if a1_0 = 0 then (chargeparklaw24_RampNeverMore.j1 kj5 a2 true t215 a0_3 a0_0 a0_1 a0_2 a0_3 a0_4 a0_5 a0_6 a0_7 a1_0 a1_1 t213 t214) else (chargeparklaw24_RampNeverMore.j1 kj5 a2 true t215 (wrap64 (a1_0 + a0_5)) a0_0 a0_1 a0_2 a0_3 a0_4 a0_5 a0_6 a0_7 a1_0 a1_1 t213 t214)) = some r := H
        have A17 := Aside0.mk A170
        clear A170
        have HC18 := Aside0.mk H
        clear H
        have hnb19 := NB210_211.out
        have hnc19 := NB211_210.out
        have hcz20_0 : wc.cell? ⟨gb210, 0, none⟩ = some (.string a0_0) := (blk_cell BK210.out 0).trans rfl
        have hcz20_1 : wc.cell? ⟨gb210, 1, none⟩ = some (.int .i64 a0_1) := (blk_cell BK210.out 1).trans rfl
        have hcz20_2 : wc.cell? ⟨gb210, 2, none⟩ = some (.int .i64 a0_2) := (blk_cell BK210.out 2).trans rfl
        have hcz20_3 : wc.cell? ⟨gb210, 3, none⟩ = some (.int .i64 a0_3) := (blk_cell BK210.out 3).trans rfl
        have hcz20_4 : wc.cell? ⟨gb210, 4, none⟩ = some (.int .i64 a0_4) := (blk_cell BK210.out 4).trans rfl
        have hcz20_5 : wc.cell? ⟨gb210, 5, none⟩ = some (.int .i64 a0_5) := (blk_cell BK210.out 5).trans rfl
        have hcz20_6 : wc.cell? ⟨gb210, 6, none⟩ = some (.int .i64 a0_6) := (blk_cell BK210.out 6).trans rfl
        have hcz20_7 : wc.cell? ⟨gb210, 7, none⟩ = some (.int .i64 a0_7) := (blk_cell BK210.out 7).trans rfl
        have hfz20_0 := blk_frozen BK210.out 0
        have hfz20_1 := blk_frozen BK210.out 1
        have hfz20_2 := blk_frozen BK210.out 2
        have hfz20_3 := blk_frozen BK210.out 3
        have hfz20_4 := blk_frozen BK210.out 4
        have hfz20_5 := blk_frozen BK210.out 5
        have hfz20_6 := blk_frozen BK210.out 6
        have hfz20_7 := blk_frozen BK210.out 7
        have hcz21_0 : wc.cell? ⟨gb211, 0, none⟩ = some (.int .i64 a1_0) := (blk_cell BK211.out 0).trans rfl
        have hcz21_1 : wc.cell? ⟨gb211, 1, none⟩ = some (.int .i64 a1_1) := (blk_cell BK211.out 1).trans rfl
        have hfz21_0 := blk_frozen BK211.out 0
        have hfz21_1 := blk_frozen BK211.out 1
        go_upto_if 44 with (first | ((with_reducible refine gate_callee (f := 10) rfl ?_); refine goesL_ (some 34) rfl rfl Tryd.func10 (by kernel_rfl) rfl #[.agg #[.string a0_0, .int .i64 a0_1, .int .i64 a0_2, .int .i64 a0_3, .int .i64 a0_4, .int .i64 a0_5, .int .i64 a0_6, .int .i64 a0_7], .agg #[.int .i64 a1_0, .int .i64 a1_1], .int .i64 a2] rfl (by (try simp only [List.map_toArray, List.map_cons, List.map_nil]); first | done | rfl | (simp only [List.length_drop, List.length_take]; rfl)) ?_; (with_reducible refine (ramp_Next.calls a0_0 a0_1 a0_2 a0_3 a0_4 a0_5 a0_6 a0_7 a1_0 a1_1 a2 t213 t214 t215 _ (hG.below (by repeat (first | (with_reducible first | exact HB.out | apply below_alloc | apply pw_below_drewN | apply below_drew1) | exact HB.out))) A17.out).mono ?_); rintro e w22 ⟨rfl, hb⟩; refine ⟨_, rfl, ?_⟩; have n0_ := Aside0.mk (blk_below (g := gb210) (o := .cells #[.string a0_0, .int .i64 a0_1, .int .i64 a0_2, .int .i64 a0_3, .int .i64 a0_4, .int .i64 a0_5, .int .i64 a0_6, .int .i64 a0_7] 23 (0, 0)) (by (with_reducible repeat (first | refine blk_drewN ?_ _ | refine blk_drew ?_ | refine blk_alloc ?_ _)); exact BK210.out) hb); have n1_ := Aside0.mk (blk_below (g := gb211) (o := .cells #[.int .i64 a1_0, .int .i64 a1_1] 25 (0, 0)) (by (with_reducible repeat (first | refine blk_drewN ?_ _ | refine blk_drew ?_ | refine blk_alloc ?_ _)); exact BK211.out) hb); have n2_ := Aside0.mk (below_step (by repeat (first | (with_reducible first | exact HB.out | apply below_alloc | apply pw_below_drewN | apply below_drew1 | refine below_set ?_ GE210.out | refine below_set ?_ GE211.out) | exact HB.out)) hb); clear BK210; clear BK211; clear HB; have BK210 := n0_; have BK211 := n1_; have HB := n2_; clear n0_ n1_ n2_; (try clear hb); (try clear hb2); (try clear hk); (try clear hi)) | ((with_reducible refine gate_dst (N := 9) rfl ?_); refine box_event ?hg (N := 9) ?hd (cs := #[.int .i64 0, .int .i64 0]) (t := 25) ?hr ?_; (case hd => rfl); (case hg => rfl); (case hr => first | (go_simp; done) | (go_simp; rfl)); intro gb216 hg w23 hbox hb; have n0_ := Aside0.mk (blk_below (g := gb210) (o := .cells #[.string a0_0, .int .i64 a0_1, .int .i64 a0_2, .int .i64 a0_3, .int .i64 a0_4, .int .i64 a0_5, .int .i64 a0_6, .int .i64 a0_7] 23 (0, 0)) (by (with_reducible repeat (first | refine blk_drewN ?_ _ | refine blk_drew ?_ | refine blk_alloc ?_ _)); exact BK210.out) hb); have n1_ := Aside0.mk (blk_below (g := gb211) (o := .cells #[.int .i64 a1_0, .int .i64 a1_1] 25 (0, 0)) (by (with_reducible repeat (first | refine blk_drewN ?_ _ | refine blk_drew ?_ | refine blk_alloc ?_ _)); exact BK211.out) hb); have n2_ := Aside0.mk (below_step (by repeat (first | (with_reducible first | exact HB.out | apply below_alloc | apply pw_below_drewN | apply below_drew1 | refine below_set ?_ GE210.out | refine below_set ?_ GE211.out) | exact HB.out)) hb); have n3_ := Aside0.mk (hbox); have n4_ := Aside0.mk ((by rw [hg]; exact (below_size (by repeat (first | (with_reducible first | exact HB.out | apply below_alloc | apply pw_below_drewN | apply below_drew1 | refine below_set ?_ GE210.out | refine below_set ?_ GE211.out) | exact HB.out))) : w.heap.size ≤ gb216)); have n5_ := Aside0.mk ((by rw [hg]; exact (below_size (by repeat (first | (with_reducible first | exact HB.out | apply below_alloc | apply pw_below_drewN | apply below_drew1 | refine below_set ?_ GE210.out | refine below_set ?_ GE211.out) | exact HB.out))) : w.heap.size ≤ gb216)); have n6_ := Aside0.mk ((by rw [hg]; exact Nat.ne_of_lt (blk_lt (g := gb210) (o := .cells #[.string a0_0, .int .i64 a0_1, .int .i64 a0_2, .int .i64 a0_3, .int .i64 a0_4, .int .i64 a0_5, .int .i64 a0_6, .int .i64 a0_7] 23 (0, 0)) (by (with_reducible repeat (first | refine blk_drewN ?_ _ | refine blk_drew ?_ | refine blk_alloc ?_ _)); exact BK210.out)) : gb210 ≠ gb216)); have n7_ := Aside0.mk ((by rw [hg]; exact Nat.ne_of_gt (blk_lt (g := gb210) (o := .cells #[.string a0_0, .int .i64 a0_1, .int .i64 a0_2, .int .i64 a0_3, .int .i64 a0_4, .int .i64 a0_5, .int .i64 a0_6, .int .i64 a0_7] 23 (0, 0)) (by (with_reducible repeat (first | refine blk_drewN ?_ _ | refine blk_drew ?_ | refine blk_alloc ?_ _)); exact BK210.out)) : gb216 ≠ gb210)); have n8_ := Aside0.mk ((by rw [hg]; exact Nat.ne_of_lt (blk_lt (g := gb211) (o := .cells #[.int .i64 a1_0, .int .i64 a1_1] 25 (0, 0)) (by (with_reducible repeat (first | refine blk_drewN ?_ _ | refine blk_drew ?_ | refine blk_alloc ?_ _)); exact BK211.out)) : gb211 ≠ gb216)); have n9_ := Aside0.mk ((by rw [hg]; exact Nat.ne_of_gt (blk_lt (g := gb211) (o := .cells #[.int .i64 a1_0, .int .i64 a1_1] 25 (0, 0)) (by (with_reducible repeat (first | refine blk_drewN ?_ _ | refine blk_drew ?_ | refine blk_alloc ?_ _)); exact BK211.out)) : gb216 ≠ gb211)); clear BK210; clear BK211; clear HB; have BK210 := n0_; have BK211 := n1_; have HB := n2_; have BK216 := n3_; have GW216 := n4_; have GE216 := n5_; have NB210_216 := n6_; have NB216_210 := n7_; have NB211_216 := n8_; have NB216_211 := n9_; clear n0_ n1_ n2_ n3_ n4_ n5_ n6_ n7_ n8_ n9_; clear hb hbox hg; have hnb24 := NB216_210.out; have hnc24 := NB210_216.out; have hnb25 := NB216_211.out; have hnc25 := NB211_216.out; have hcz26_0 : w23.cell? ⟨gb216, 0, none⟩ = some (.int .i64 0) := (blk_cell BK216.out 0).trans rfl; have hcz26_1 : w23.cell? ⟨gb216, 1, none⟩ = some (.int .i64 0) := (blk_cell BK216.out 1).trans rfl; have hfz26_0 := blk_frozen BK216.out 0; have hfz26_1 := blk_frozen BK216.out 1; have hcz27_0 : w23.cell? ⟨gb211, 0, none⟩ = some (.int .i64 a1_0) := (blk_cell BK211.out 0).trans rfl; have hcz27_1 : w23.cell? ⟨gb211, 1, none⟩ = some (.int .i64 a1_1) := (blk_cell BK211.out 1).trans rfl; have hfz27_0 := blk_frozen BK211.out 0; have hfz27_1 := blk_frozen BK211.out 1; have hcz28_0 : w23.cell? ⟨gb210, 0, none⟩ = some (.string a0_0) := (blk_cell BK210.out 0).trans rfl; have hcz28_1 : w23.cell? ⟨gb210, 1, none⟩ = some (.int .i64 a0_1) := (blk_cell BK210.out 1).trans rfl; have hcz28_2 : w23.cell? ⟨gb210, 2, none⟩ = some (.int .i64 a0_2) := (blk_cell BK210.out 2).trans rfl; have hcz28_3 : w23.cell? ⟨gb210, 3, none⟩ = some (.int .i64 a0_3) := (blk_cell BK210.out 3).trans rfl; have hcz28_4 : w23.cell? ⟨gb210, 4, none⟩ = some (.int .i64 a0_4) := (blk_cell BK210.out 4).trans rfl; have hcz28_5 : w23.cell? ⟨gb210, 5, none⟩ = some (.int .i64 a0_5) := (blk_cell BK210.out 5).trans rfl; have hcz28_6 : w23.cell? ⟨gb210, 6, none⟩ = some (.int .i64 a0_6) := (blk_cell BK210.out 6).trans rfl; have hcz28_7 : w23.cell? ⟨gb210, 7, none⟩ = some (.int .i64 a0_7) := (blk_cell BK210.out 7).trans rfl; have hfz28_0 := blk_frozen BK210.out 0; have hfz28_1 := blk_frozen BK210.out 1; have hfz28_2 := blk_frozen BK210.out 2; have hfz28_3 := blk_frozen BK210.out 3; have hfz28_4 := blk_frozen BK210.out 4; have hfz28_5 := blk_frozen BK210.out 5; have hfz28_6 := blk_frozen BK210.out 6; have hfz28_7 := blk_frozen BK210.out 7))
        (try simp only [Act.put, List.setIfInBounds_toArray, List.set_cons_zero, List.set_cons_succ])
        go_cut [11] (fun v11 wc => ∃ (kq : Nat) (x11_17 : Int), v11 = .int .i64 x11_17 ∧ Aside0 (chargeparklaw24_RampNeverMore.j1 kq a2 true t215 x11_17 a0_0 a0_1 a0_2 a0_3 a0_4 a0_5 a0_6 a0_7 a1_0 a1_1 t213 t214 = some r) ∧ Aside0 (kq ≤ kj5) ∧ Aside0 (wc.heap[gb210]? = some (.cells #[.string a0_0, .int .i64 a0_1, .int .i64 a0_2, .int .i64 a0_3, .int .i64 a0_4, .int .i64 a0_5, .int .i64 a0_6, .int .i64 a0_7] 23 (0, 0))) ∧ Aside0 (wc.heap[gb211]? = some (.cells #[.int .i64 a1_0, .int .i64 a1_1] 25 (0, 0))) ∧ Aside0 (wc.heap[gb216]? = some (.cells #[.int .i64 t213, .int .i64 t214] 25 (0, 0))) ∧ Aside0 (Below w.heap.size w wc))
        case first =>
          have H := HC18.out
          clear HC18
          by_cases c29 : a1_0 = 0
          · rw [if_pos c29] at H
            have c29b0 : (a1_0 == 0) = true := beq_iff_eq.mpr c29
            have c29b1 : (a1_0 != 0) = false := bne_eq_false_iff_eq.mpr c29
            clear c29
            (first | rw [c29b0] | (simp only [i64_w, i32_w]; rw [c29b0]) | skip)
            have H' := Aside0.mk H
            clear H
            have hnb30 := NB210_211.out
            have hnc30 := NB211_210.out
            have hnb31 := NB210_216.out
            have hnc31 := NB216_210.out
            have hcz32_0 : w23.cell? ⟨gb210, 0, none⟩ = some (.string a0_0) := (blk_cell BK210.out 0).trans rfl
            have hcz32_1 : w23.cell? ⟨gb210, 1, none⟩ = some (.int .i64 a0_1) := (blk_cell BK210.out 1).trans rfl
            have hcz32_2 : w23.cell? ⟨gb210, 2, none⟩ = some (.int .i64 a0_2) := (blk_cell BK210.out 2).trans rfl
            have hcz32_3 : w23.cell? ⟨gb210, 3, none⟩ = some (.int .i64 a0_3) := (blk_cell BK210.out 3).trans rfl
            have hcz32_4 : w23.cell? ⟨gb210, 4, none⟩ = some (.int .i64 a0_4) := (blk_cell BK210.out 4).trans rfl
            have hcz32_5 : w23.cell? ⟨gb210, 5, none⟩ = some (.int .i64 a0_5) := (blk_cell BK210.out 5).trans rfl
            have hcz32_6 : w23.cell? ⟨gb210, 6, none⟩ = some (.int .i64 a0_6) := (blk_cell BK210.out 6).trans rfl
            have hcz32_7 : w23.cell? ⟨gb210, 7, none⟩ = some (.int .i64 a0_7) := (blk_cell BK210.out 7).trans rfl
            have hfz32_0 := blk_frozen BK210.out 0
            have hfz32_1 := blk_frozen BK210.out 1
            have hfz32_2 := blk_frozen BK210.out 2
            have hfz32_3 := blk_frozen BK210.out 3
            have hfz32_4 := blk_frozen BK210.out 4
            have hfz32_5 := blk_frozen BK210.out 5
            have hfz32_6 := blk_frozen BK210.out 6
            have hfz32_7 := blk_frozen BK210.out 7
            go_wp2
            go_meet
            case rel => exact ⟨_, (a0_3), (by first | rfl | (simp; done) | (simp [*]; done)), H', ⟨by have := HJ5.out; first | omega | exact Nat.le_refl _⟩, ⟨by (with_reducible repeat (first | refine blk_drewN ?_ _ | refine blk_drew ?_ | refine blk_alloc ?_ _)); refine blk_far ?_ NB210_216.out _; (with_reducible repeat (first | refine blk_drewN ?_ _ | refine blk_drew ?_ | refine blk_alloc ?_ _)); refine blk_far ?_ NB210_216.out _; (with_reducible repeat (first | refine blk_drewN ?_ _ | refine blk_drew ?_ | refine blk_alloc ?_ _)); exact BK210.out⟩, ⟨by (with_reducible repeat (first | refine blk_drewN ?_ _ | refine blk_drew ?_ | refine blk_alloc ?_ _)); refine blk_far ?_ NB211_216.out _; (with_reducible repeat (first | refine blk_drewN ?_ _ | refine blk_drew ?_ | refine blk_alloc ?_ _)); refine blk_far ?_ NB211_216.out _; (with_reducible repeat (first | refine blk_drewN ?_ _ | refine blk_drew ?_ | refine blk_alloc ?_ _)); exact BK211.out⟩, ⟨by (with_reducible repeat (first | refine blk_drewN ?_ _ | refine blk_drew ?_ | refine blk_alloc ?_ _)); refine blk_put (cs := #[.int .i64 t213, .int .i64 0]) ?_ 1 _ rfl; (with_reducible repeat (first | refine blk_drewN ?_ _ | refine blk_drew ?_ | refine blk_alloc ?_ _)); refine blk_put (cs := #[.int .i64 0, .int .i64 0]) ?_ 0 _ rfl; (with_reducible repeat (first | refine blk_drewN ?_ _ | refine blk_drew ?_ | refine blk_alloc ?_ _)); exact BK216.out⟩, ⟨by repeat (first | (with_reducible first | exact HB.out | apply below_alloc | apply pw_below_drewN | apply below_drew1 | refine below_set ?_ GE210.out | refine below_set ?_ GE211.out | refine below_set ?_ GE216.out) | exact HB.out)⟩⟩
          · rw [if_neg c29] at H
            have c29b0 : (a1_0 == 0) = false := beq_eq_false_iff_ne.mpr c29
            have c29b1 : (a1_0 != 0) = true := bne_iff_ne.mpr c29
            (first | rw [c29b0] | (simp only [i64_w, i32_w]; rw [c29b0]) | skip)
            have H' := Aside0.mk H
            clear H
            go_wp2
            go_meet
            case rel => exact ⟨_, (wrap64 (a1_0 + a0_5)), (by first | rfl | (simp; done) | (simp [*]; done)), H', ⟨by have := HJ5.out; first | omega | exact Nat.le_refl _⟩, ⟨by (with_reducible repeat (first | refine blk_drewN ?_ _ | refine blk_drew ?_ | refine blk_alloc ?_ _)); refine blk_far ?_ NB210_216.out _; (with_reducible repeat (first | refine blk_drewN ?_ _ | refine blk_drew ?_ | refine blk_alloc ?_ _)); refine blk_far ?_ NB210_216.out _; (with_reducible repeat (first | refine blk_drewN ?_ _ | refine blk_drew ?_ | refine blk_alloc ?_ _)); exact BK210.out⟩, ⟨by (with_reducible repeat (first | refine blk_drewN ?_ _ | refine blk_drew ?_ | refine blk_alloc ?_ _)); refine blk_far ?_ NB211_216.out _; (with_reducible repeat (first | refine blk_drewN ?_ _ | refine blk_drew ?_ | refine blk_alloc ?_ _)); refine blk_far ?_ NB211_216.out _; (with_reducible repeat (first | refine blk_drewN ?_ _ | refine blk_drew ?_ | refine blk_alloc ?_ _)); exact BK211.out⟩, ⟨by (with_reducible repeat (first | refine blk_drewN ?_ _ | refine blk_drew ?_ | refine blk_alloc ?_ _)); refine blk_put (cs := #[.int .i64 t213, .int .i64 0]) ?_ 1 _ rfl; (with_reducible repeat (first | refine blk_drewN ?_ _ | refine blk_drew ?_ | refine blk_alloc ?_ _)); refine blk_put (cs := #[.int .i64 0, .int .i64 0]) ?_ 0 _ rfl; (with_reducible repeat (first | refine blk_drewN ?_ _ | refine blk_drew ?_ | refine blk_alloc ?_ _)); exact BK216.out⟩, ⟨by repeat (first | (with_reducible first | exact HB.out | apply below_alloc | apply pw_below_drewN | apply below_drew1 | refine below_set ?_ GE210.out | refine below_set ?_ GE211.out | refine below_set ?_ GE216.out) | exact HB.out)⟩⟩
        case rest =>
          clear HC18
          try clear c1
          try clear c2
          try clear p2
          try clear c3
          try clear c4
          try clear p6
          try clear c9
          try clear c10
          try clear c13
          try clear c14
          try clear c15
          try clear c15b0
          try clear c16
          try clear c19
          try clear c24
          try clear c25
          try clear c29
          try clear c29b0
          try clear c29b1
          try clear c30
          try clear c31
          try clear hcz11_0
          try clear hcz11_1
          try clear hcz11_2
          try clear hcz11_3
          try clear hcz11_4
          try clear hcz11_5
          try clear hcz11_6
          try clear hcz11_7
          try clear hcz12_0
          try clear hcz12_1
          try clear hcz20_0
          try clear hcz20_1
          try clear hcz20_2
          try clear hcz20_3
          try clear hcz20_4
          try clear hcz20_5
          try clear hcz20_6
          try clear hcz20_7
          try clear hcz21_0
          try clear hcz21_1
          try clear hcz26_0
          try clear hcz26_1
          try clear hcz27_0
          try clear hcz27_1
          try clear hcz28_0
          try clear hcz28_1
          try clear hcz28_2
          try clear hcz28_3
          try clear hcz28_4
          try clear hcz28_5
          try clear hcz28_6
          try clear hcz28_7
          try clear hcz32_0
          try clear hcz32_1
          try clear hcz32_2
          try clear hcz32_3
          try clear hcz32_4
          try clear hcz32_5
          try clear hcz32_6
          try clear hcz32_7
          try clear hfz11_0
          try clear hfz11_1
          try clear hfz11_2
          try clear hfz11_3
          try clear hfz11_4
          try clear hfz11_5
          try clear hfz11_6
          try clear hfz11_7
          try clear hfz12_0
          try clear hfz12_1
          try clear hfz20_0
          try clear hfz20_1
          try clear hfz20_2
          try clear hfz20_3
          try clear hfz20_4
          try clear hfz20_5
          try clear hfz20_6
          try clear hfz20_7
          try clear hfz21_0
          try clear hfz21_1
          try clear hfz26_0
          try clear hfz26_1
          try clear hfz27_0
          try clear hfz27_1
          try clear hfz28_0
          try clear hfz28_1
          try clear hfz28_2
          try clear hfz28_3
          try clear hfz28_4
          try clear hfz28_5
          try clear hfz28_6
          try clear hfz28_7
          try clear hfz32_0
          try clear hfz32_1
          try clear hfz32_2
          try clear hfz32_3
          try clear hfz32_4
          try clear hfz32_5
          try clear hfz32_6
          try clear hfz32_7
          try clear p2
          obtain ⟨kq, x11_17, rfl, HA, HJ17, BK210, BK211, BK216, HB⟩ := hcut
          cases kq with
          | zero => exact absurd HA.out (by simp [chargeparklaw24_RampNeverMore.j1])
          | succ kj17 =>
            have H := HA.out
            clear HA
            simp only [chargeparklaw24_RampNeverMore.j1] at H
            have H' := Aside0.mk H
            clear H
            go_wp2
            go_loopg [12, 13] kj17 (fun kq v12 v13 w' => ∃ (x12_3 : Int) (x13_3 : Int), v12 = .int .i64 x12_3 ∧ v13 = .int .i64 x13_3 ∧ Aside0 (chargeparklaw24_RampNeverMore.l0 kq a2 true t215 x11_17 x12_3 x13_3 a0_0 a0_1 a0_2 a0_3 a0_4 a0_5 a0_6 a0_7 a1_0 a1_1 t213 t214 = some r) ∧ Aside0 (kq ≤ kj17) ∧ Aside0 (w'.heap[gb210]? = some (.cells #[.string a0_0, .int .i64 a0_1, .int .i64 a0_2, .int .i64 a0_3, .int .i64 a0_4, .int .i64 a0_5, .int .i64 a0_6, .int .i64 a0_7] 23 (0, 0))) ∧ Aside0 (w'.heap[gb211]? = some (.cells #[.int .i64 a1_0, .int .i64 a1_1] 25 (0, 0))) ∧ Aside0 (w'.heap[gb216]? = some (.cells #[.int .i64 t213, .int .i64 t214] 25 (0, 0))) ∧ Aside0 (Below w.heap.size w w'))
            case atStart => exact ⟨(0), (0), (by first | rfl | (simp; done) | (simp [*]; done)), (by first | rfl | (simp; done) | (simp [*]; done)), H', ⟨Nat.le_refl _⟩, ⟨by (with_reducible repeat (first | refine blk_drewN ?_ _ | refine blk_drew ?_ | refine blk_alloc ?_ _)); exact BK210.out⟩, ⟨by (with_reducible repeat (first | refine blk_drewN ?_ _ | refine blk_drew ?_ | refine blk_alloc ?_ _)); exact BK211.out⟩, ⟨by (with_reducible repeat (first | refine blk_drewN ?_ _ | refine blk_drew ?_ | refine blk_alloc ?_ _)); exact BK216.out⟩, ⟨by repeat (first | (with_reducible first | exact HB.out | apply below_alloc | apply pw_below_drewN | apply below_drew1 | refine below_set ?_ GE210.out | refine below_set ?_ GE211.out | refine below_set ?_ GE216.out) | exact HB.out)⟩⟩
            case round =>
              clear H'
              try clear c1
              try clear c2
              try clear p2
              try clear c3
              try clear c4
              try clear p6
              try clear c9
              try clear c10
              try clear c13
              try clear c14
              try clear c15
              try clear c15b0
              try clear c16
              try clear c19
              try clear c24
              try clear c25
              try clear c29
              try clear c29b0
              try clear c29b1
              try clear c30
              try clear c31
              try clear hcz11_0
              try clear hcz11_1
              try clear hcz11_2
              try clear hcz11_3
              try clear hcz11_4
              try clear hcz11_5
              try clear hcz11_6
              try clear hcz11_7
              try clear hcz12_0
              try clear hcz12_1
              try clear hcz20_0
              try clear hcz20_1
              try clear hcz20_2
              try clear hcz20_3
              try clear hcz20_4
              try clear hcz20_5
              try clear hcz20_6
              try clear hcz20_7
              try clear hcz21_0
              try clear hcz21_1
              try clear hcz26_0
              try clear hcz26_1
              try clear hcz27_0
              try clear hcz27_1
              try clear hcz28_0
              try clear hcz28_1
              try clear hcz28_2
              try clear hcz28_3
              try clear hcz28_4
              try clear hcz28_5
              try clear hcz28_6
              try clear hcz28_7
              try clear hcz32_0
              try clear hcz32_1
              try clear hcz32_2
              try clear hcz32_3
              try clear hcz32_4
              try clear hcz32_5
              try clear hcz32_6
              try clear hcz32_7
              try clear hfz11_0
              try clear hfz11_1
              try clear hfz11_2
              try clear hfz11_3
              try clear hfz11_4
              try clear hfz11_5
              try clear hfz11_6
              try clear hfz11_7
              try clear hfz12_0
              try clear hfz12_1
              try clear hfz20_0
              try clear hfz20_1
              try clear hfz20_2
              try clear hfz20_3
              try clear hfz20_4
              try clear hfz20_5
              try clear hfz20_6
              try clear hfz20_7
              try clear hfz21_0
              try clear hfz21_1
              try clear hfz26_0
              try clear hfz26_1
              try clear hfz27_0
              try clear hfz27_1
              try clear hfz28_0
              try clear hfz28_1
              try clear hfz28_2
              try clear hfz28_3
              try clear hfz28_4
              try clear hfz28_5
              try clear hfz28_6
              try clear hfz28_7
              try clear hfz32_0
              try clear hfz32_1
              try clear hfz32_2
              try clear hfz32_3
              try clear hfz32_4
              try clear hfz32_5
              try clear hfz32_6
              try clear hfz32_7
              try clear p2
              try clear p6
              obtain ⟨x12_3, x13_3, rfl, rfl, HA, HK3, BK210, BK211, BK216, HB⟩ := hrel
              cases gk with
              | zero => exact absurd HA.out (by simp [chargeparklaw24_RampNeverMore.l0])
              | succ k3 =>
                have H := HA.out
                clear HA
                simp only [chargeparklaw24_RampNeverMore.l0] at H
                obtain ⟨ji33, hji33⟩ : ∃ j_ : Int, (mn a2 x11_17) = j_ := ⟨_, rfl⟩
                replace H : (if x13_3 ≤ (ji33) then ((chargeparklaw24_isLevel.f a0_0 a0_1 a0_2 a0_3 a0_4 a0_5 a0_6 a0_7 x13_3).bind fun t217 => (if t217 = true then (chargeparklaw24_RampNeverMore.l0 k3 a2 true t215 x11_17 x13_3 (wrap64 (x13_3 + 1)) a0_0 a0_1 a0_2 a0_3 a0_4 a0_5 a0_6 a0_7 a1_0 a1_1 t213 t214) else (chargeparklaw24_RampNeverMore.l0 k3 a2 true t215 x11_17 x12_3 (wrap64 (x13_3 + 1)) a0_0 a0_1 a0_2 a0_3 a0_4 a0_5 a0_6 a0_7 a1_0 a1_1 t213 t214))) else (if a1_0 = 0 then (if a1_1 < 5 then (if true = true then (if t215 = 0 then ((chargeparklaw24_isLevel.f a0_0 a0_1 a0_2 a0_3 a0_4 a0_5 a0_6 a0_7 t213).bind fun t218 => (if t218 = true then (if t213 ≤ a2 then (if t213 ≤ x11_17 then (if t213 = x12_3 then (if a1_1 ≥ 5 then (some true) else (some (t213 == 0))) else (if t213 = 0 then (if a1_1 ≥ 5 then (some true) else (some (t213 == 0))) else (some false))) else (some false)) else (some false)) else (some false))) else (some false)) else (some false)) else (if true = true then (if t215 = 0 then ((chargeparklaw24_isLevel.f a0_0 a0_1 a0_2 a0_3 a0_4 a0_5 a0_6 a0_7 t213).bind fun t219 => (if t219 = true then (if t213 ≤ a2 then (if t213 ≤ x11_17 then (if t213 = x12_3 then (if a1_1 ≥ 5 then (some true) else (some (t213 == 0))) else (some false)) else (some false)) else (some false)) else (some false))) else (some false)) else (some false))) else (if true = true then (if t215 = 0 then ((chargeparklaw24_isLevel.f a0_0 a0_1 a0_2 a0_3 a0_4 a0_5 a0_6 a0_7 t213).bind fun t220 => (if t220 = true then (if t213 ≤ a2 then (if t213 ≤ x11_17 then (if t213 = x12_3 then (some true) else (some false)) else (some false)) else (some false)) else (some false))) else (some false)) else (some false)))) = some r := by first | (rw [hji33] at H; exact H) | (simp only [hji33] at H ⊢; exact H)
                have hji33_ : (if x11_17 < a2 then x11_17 else a2) = ji33 := hji33
                by_cases c34 : x13_3 ≤ (ji33)
                · rw [if_pos c34] at H
                  have c34b0 : decide (x13_3 ≤ (ji33)) = true := decide_eq_true c34
                  clear c34
                  replace H := Option.bind_eq_some_iff.mp H
                  obtain ⟨t217, A350, H⟩ := H
                  replace H : (if t217 = true then (chargeparklaw24_RampNeverMore.l0 k3 a2 true t215 x11_17 x13_3 (wrap64 (x13_3 + 1)) a0_0 a0_1 a0_2 a0_3 a0_4 a0_5 a0_6 a0_7 a1_0 a1_1 t213 t214) else (chargeparklaw24_RampNeverMore.l0 k3 a2 true t215 x11_17 x12_3 (wrap64 (x13_3 + 1)) a0_0 a0_1 a0_2 a0_3 a0_4 a0_5 a0_6 a0_7 a1_0 a1_1 t213 t214)) = some r := H
                  have A35 := Aside0.mk A350
                  clear A350
                  by_cases c36 : t217 = true
                  · subst c36
                    have H1 : (chargeparklaw24_RampNeverMore.l0 k3 a2 true t215 x11_17 x13_3 (wrap64 (x13_3 + 1)) a0_0 a0_1 a0_2 a0_3 a0_4 a0_5 a0_6 a0_7 a1_0 a1_1 t213 t214) = some r := by rw [if_pos rfl] at H; exact H
                    clear H
                    have H := H1
                    clear H1
                    have H' := Aside0.mk H
                    clear H
                    have hnb37 := NB210_211.out
                    have hnc37 := NB211_210.out
                    have hnb38 := NB210_216.out
                    have hnc38 := NB216_210.out
                    have hcz39_0 : wr.cell? ⟨gb210, 0, none⟩ = some (.string a0_0) := (blk_cell BK210.out 0).trans rfl
                    have hcz39_1 : wr.cell? ⟨gb210, 1, none⟩ = some (.int .i64 a0_1) := (blk_cell BK210.out 1).trans rfl
                    have hcz39_2 : wr.cell? ⟨gb210, 2, none⟩ = some (.int .i64 a0_2) := (blk_cell BK210.out 2).trans rfl
                    have hcz39_3 : wr.cell? ⟨gb210, 3, none⟩ = some (.int .i64 a0_3) := (blk_cell BK210.out 3).trans rfl
                    have hcz39_4 : wr.cell? ⟨gb210, 4, none⟩ = some (.int .i64 a0_4) := (blk_cell BK210.out 4).trans rfl
                    have hcz39_5 : wr.cell? ⟨gb210, 5, none⟩ = some (.int .i64 a0_5) := (blk_cell BK210.out 5).trans rfl
                    have hcz39_6 : wr.cell? ⟨gb210, 6, none⟩ = some (.int .i64 a0_6) := (blk_cell BK210.out 6).trans rfl
                    have hcz39_7 : wr.cell? ⟨gb210, 7, none⟩ = some (.int .i64 a0_7) := (blk_cell BK210.out 7).trans rfl
                    have hfz39_0 := blk_frozen BK210.out 0
                    have hfz39_1 := blk_frozen BK210.out 1
                    have hfz39_2 := blk_frozen BK210.out 2
                    have hfz39_3 := blk_frozen BK210.out 3
                    have hfz39_4 := blk_frozen BK210.out 4
                    have hfz39_5 := blk_frozen BK210.out 5
                    have hfz39_6 := blk_frozen BK210.out 6
                    have hfz39_7 := blk_frozen BK210.out 7
                    go_wp2_with (first | ((with_reducible refine gate_callee (f := 14) rfl ?_); refine goesL_ (some 56) rfl rfl Tryd.func14 (by kernel_rfl) rfl #[.agg #[.string a0_0, .int .i64 a0_1, .int .i64 a0_2, .int .i64 a0_3, .int .i64 a0_4, .int .i64 a0_5, .int .i64 a0_6, .int .i64 a0_7], .int .i64 x13_3] rfl (by (try simp only [List.map_toArray, List.map_cons, List.map_nil]); first | done | rfl | (simp only [List.length_drop, List.length_take]; rfl)) ?_; (with_reducible refine (chargeparklaw24_isLevel.calls a0_0 a0_1 a0_2 a0_3 a0_4 a0_5 a0_6 a0_7 x13_3 true _ A35.out).mono ?_); rintro e w40 ⟨rfl, hb⟩; refine ⟨_, rfl, ?_⟩; have n0_ := Aside0.mk (blk_below (g := gb210) (o := .cells #[.string a0_0, .int .i64 a0_1, .int .i64 a0_2, .int .i64 a0_3, .int .i64 a0_4, .int .i64 a0_5, .int .i64 a0_6, .int .i64 a0_7] 23 (0, 0)) (by (with_reducible repeat (first | refine blk_drewN ?_ _ | refine blk_drew ?_ | refine blk_alloc ?_ _)); exact BK210.out) hb); have n1_ := Aside0.mk (blk_below (g := gb211) (o := .cells #[.int .i64 a1_0, .int .i64 a1_1] 25 (0, 0)) (by (with_reducible repeat (first | refine blk_drewN ?_ _ | refine blk_drew ?_ | refine blk_alloc ?_ _)); exact BK211.out) hb); have n2_ := Aside0.mk (blk_below (g := gb216) (o := .cells #[.int .i64 t213, .int .i64 t214] 25 (0, 0)) (by (with_reducible repeat (first | refine blk_drewN ?_ _ | refine blk_drew ?_ | refine blk_alloc ?_ _)); exact BK216.out) hb); have n3_ := Aside0.mk (below_step (by repeat (first | (with_reducible first | exact HB.out | apply below_alloc | apply pw_below_drewN | apply below_drew1 | refine below_set ?_ GE210.out | refine below_set ?_ GE211.out | refine below_set ?_ GE216.out) | exact HB.out)) hb); clear BK210; clear BK211; clear BK216; clear HB; have BK210 := n0_; have BK211 := n1_; have BK216 := n2_; have HB := n3_; clear n0_ n1_ n2_ n3_; (try clear hb); (try clear hb2); (try clear hk); (try clear hi)))
                    go_roundg k3
                    case measure => have := HJ5.out; have := HJ17.out; have := HK3.out; omega
                    case rel => exact ⟨(x13_3), (wrap64 (x13_3 + 1)), (by first | rfl | (simp; done) | (simp [*]; done)), (by first | rfl | (simp; done) | (simp [*]; done)), H', ⟨by have := HJ5.out; have := HJ17.out; have := HK3.out; omega⟩, ⟨by (with_reducible repeat (first | refine blk_drewN ?_ _ | refine blk_drew ?_ | refine blk_alloc ?_ _)); exact BK210.out⟩, ⟨by (with_reducible repeat (first | refine blk_drewN ?_ _ | refine blk_drew ?_ | refine blk_alloc ?_ _)); exact BK211.out⟩, ⟨by (with_reducible repeat (first | refine blk_drewN ?_ _ | refine blk_drew ?_ | refine blk_alloc ?_ _)); exact BK216.out⟩, ⟨by repeat (first | (with_reducible first | exact HB.out | apply below_alloc | apply pw_below_drewN | apply below_drew1 | refine below_set ?_ GE210.out | refine below_set ?_ GE211.out | refine below_set ?_ GE216.out) | exact HB.out)⟩⟩
                  · replace c36 := Bool.eq_false_iff.mpr c36
                    subst c36
                    have H1 : (chargeparklaw24_RampNeverMore.l0 k3 a2 true t215 x11_17 x12_3 (wrap64 (x13_3 + 1)) a0_0 a0_1 a0_2 a0_3 a0_4 a0_5 a0_6 a0_7 a1_0 a1_1 t213 t214) = some r := by rw [if_neg (show ¬ (false = true) by decide)] at H; exact H
                    clear H
                    have H := H1
                    clear H1
                    have H' := Aside0.mk H
                    clear H
                    have hnb41 := NB210_211.out
                    have hnc41 := NB211_210.out
                    have hnb42 := NB210_216.out
                    have hnc42 := NB216_210.out
                    have hcz43_0 : wr.cell? ⟨gb210, 0, none⟩ = some (.string a0_0) := (blk_cell BK210.out 0).trans rfl
                    have hcz43_1 : wr.cell? ⟨gb210, 1, none⟩ = some (.int .i64 a0_1) := (blk_cell BK210.out 1).trans rfl
                    have hcz43_2 : wr.cell? ⟨gb210, 2, none⟩ = some (.int .i64 a0_2) := (blk_cell BK210.out 2).trans rfl
                    have hcz43_3 : wr.cell? ⟨gb210, 3, none⟩ = some (.int .i64 a0_3) := (blk_cell BK210.out 3).trans rfl
                    have hcz43_4 : wr.cell? ⟨gb210, 4, none⟩ = some (.int .i64 a0_4) := (blk_cell BK210.out 4).trans rfl
                    have hcz43_5 : wr.cell? ⟨gb210, 5, none⟩ = some (.int .i64 a0_5) := (blk_cell BK210.out 5).trans rfl
                    have hcz43_6 : wr.cell? ⟨gb210, 6, none⟩ = some (.int .i64 a0_6) := (blk_cell BK210.out 6).trans rfl
                    have hcz43_7 : wr.cell? ⟨gb210, 7, none⟩ = some (.int .i64 a0_7) := (blk_cell BK210.out 7).trans rfl
                    have hfz43_0 := blk_frozen BK210.out 0
                    have hfz43_1 := blk_frozen BK210.out 1
                    have hfz43_2 := blk_frozen BK210.out 2
                    have hfz43_3 := blk_frozen BK210.out 3
                    have hfz43_4 := blk_frozen BK210.out 4
                    have hfz43_5 := blk_frozen BK210.out 5
                    have hfz43_6 := blk_frozen BK210.out 6
                    have hfz43_7 := blk_frozen BK210.out 7
                    go_wp2_with (first | ((with_reducible refine gate_callee (f := 14) rfl ?_); refine goesL_ (some 56) rfl rfl Tryd.func14 (by kernel_rfl) rfl #[.agg #[.string a0_0, .int .i64 a0_1, .int .i64 a0_2, .int .i64 a0_3, .int .i64 a0_4, .int .i64 a0_5, .int .i64 a0_6, .int .i64 a0_7], .int .i64 x13_3] rfl (by (try simp only [List.map_toArray, List.map_cons, List.map_nil]); first | done | rfl | (simp only [List.length_drop, List.length_take]; rfl)) ?_; (with_reducible refine (chargeparklaw24_isLevel.calls a0_0 a0_1 a0_2 a0_3 a0_4 a0_5 a0_6 a0_7 x13_3 false _ A35.out).mono ?_); rintro e w44 ⟨rfl, hb⟩; refine ⟨_, rfl, ?_⟩; have n0_ := Aside0.mk (blk_below (g := gb210) (o := .cells #[.string a0_0, .int .i64 a0_1, .int .i64 a0_2, .int .i64 a0_3, .int .i64 a0_4, .int .i64 a0_5, .int .i64 a0_6, .int .i64 a0_7] 23 (0, 0)) (by (with_reducible repeat (first | refine blk_drewN ?_ _ | refine blk_drew ?_ | refine blk_alloc ?_ _)); exact BK210.out) hb); have n1_ := Aside0.mk (blk_below (g := gb211) (o := .cells #[.int .i64 a1_0, .int .i64 a1_1] 25 (0, 0)) (by (with_reducible repeat (first | refine blk_drewN ?_ _ | refine blk_drew ?_ | refine blk_alloc ?_ _)); exact BK211.out) hb); have n2_ := Aside0.mk (blk_below (g := gb216) (o := .cells #[.int .i64 t213, .int .i64 t214] 25 (0, 0)) (by (with_reducible repeat (first | refine blk_drewN ?_ _ | refine blk_drew ?_ | refine blk_alloc ?_ _)); exact BK216.out) hb); have n3_ := Aside0.mk (below_step (by repeat (first | (with_reducible first | exact HB.out | apply below_alloc | apply pw_below_drewN | apply below_drew1 | refine below_set ?_ GE210.out | refine below_set ?_ GE211.out | refine below_set ?_ GE216.out) | exact HB.out)) hb); clear BK210; clear BK211; clear BK216; clear HB; have BK210 := n0_; have BK211 := n1_; have BK216 := n2_; have HB := n3_; clear n0_ n1_ n2_ n3_; (try clear hb); (try clear hb2); (try clear hk); (try clear hi)))
                    go_roundg k3
                    case measure => have := HJ5.out; have := HJ17.out; have := HK3.out; omega
                    case rel => exact ⟨(x12_3), (wrap64 (x13_3 + 1)), (by first | rfl | (simp; done) | (simp [*]; done)), (by first | rfl | (simp; done) | (simp [*]; done)), H', ⟨by have := HJ5.out; have := HJ17.out; have := HK3.out; omega⟩, ⟨by (with_reducible repeat (first | refine blk_drewN ?_ _ | refine blk_drew ?_ | refine blk_alloc ?_ _)); exact BK210.out⟩, ⟨by (with_reducible repeat (first | refine blk_drewN ?_ _ | refine blk_drew ?_ | refine blk_alloc ?_ _)); exact BK211.out⟩, ⟨by (with_reducible repeat (first | refine blk_drewN ?_ _ | refine blk_drew ?_ | refine blk_alloc ?_ _)); exact BK216.out⟩, ⟨by repeat (first | (with_reducible first | exact HB.out | apply below_alloc | apply pw_below_drewN | apply below_drew1 | refine below_set ?_ GE210.out | refine below_set ?_ GE211.out | refine below_set ?_ GE216.out) | exact HB.out)⟩⟩
                · rw [if_neg c34] at H
                  have c34b0 : decide (x13_3 ≤ (ji33)) = false := decide_eq_false c34
                  clear c34
                  by_cases c45 : a1_0 = 0
                  · rw [if_pos c45] at H
                    have c45b0 : (a1_0 == 0) = true := beq_iff_eq.mpr c45
                    have c45b1 : (a1_0 != 0) = false := bne_eq_false_iff_eq.mpr c45
                    clear c45
                    by_cases c46 : a1_1 < 5
                    · rw [if_pos c46] at H
                      have c46b0 : decide (a1_1 < 5) = true := decide_eq_true c46
                      clear c46
                      by_cases c47 : (true = true)
                      · clear c47
                        have H1 : (if t215 = 0 then ((chargeparklaw24_isLevel.f a0_0 a0_1 a0_2 a0_3 a0_4 a0_5 a0_6 a0_7 t213).bind fun t218 => (if t218 = true then (if t213 ≤ a2 then (if t213 ≤ x11_17 then (if t213 = x12_3 then (if a1_1 ≥ 5 then (some true) else (some (t213 == 0))) else (if t213 = 0 then (if a1_1 ≥ 5 then (some true) else (some (t213 == 0))) else (some false))) else (some false)) else (some false)) else (some false))) else (some false)) = some r := by rw [if_pos rfl] at H; exact H
                        clear H
                        have H := H1
                        clear H1
                        by_cases c48 : t215 = 0
                        · rw [if_pos c48] at H
                          have c48b0 : (t215 == 0) = true := beq_iff_eq.mpr c48
                          have c48b1 : (t215 != 0) = false := bne_eq_false_iff_eq.mpr c48
                          clear c48
                          replace H := Option.bind_eq_some_iff.mp H
                          obtain ⟨t218, A490, H⟩ := H
                          replace H : (if t218 = true then (if t213 ≤ a2 then (if t213 ≤ x11_17 then (if t213 = x12_3 then (if a1_1 ≥ 5 then (some true) else (some (t213 == 0))) else (if t213 = 0 then (if a1_1 ≥ 5 then (some true) else (some (t213 == 0))) else (some false))) else (some false)) else (some false)) else (some false)) = some r := H
                          have A49 := Aside0.mk A490
                          clear A490
                          by_cases c50 : t218 = true
                          · subst c50
                            have H1 : (if t213 ≤ a2 then (if t213 ≤ x11_17 then (if t213 = x12_3 then (if a1_1 ≥ 5 then (some true) else (some (t213 == 0))) else (if t213 = 0 then (if a1_1 ≥ 5 then (some true) else (some (t213 == 0))) else (some false))) else (some false)) else (some false)) = some r := by rw [if_pos rfl] at H; exact H
                            clear H
                            have H := H1
                            clear H1
                            by_cases c51 : t213 ≤ a2
                            · rw [if_pos c51] at H
                              have c51b0 : decide (t213 ≤ a2) = true := decide_eq_true c51
                              clear c51
                              by_cases c52 : t213 ≤ x11_17
                              · rw [if_pos c52] at H
                                have c52b0 : decide (t213 ≤ x11_17) = true := decide_eq_true c52
                                clear c52
                                by_cases c53 : t213 = x12_3
                                · rw [if_pos c53] at H
                                  have c53b0 : (t213 == x12_3) = true := beq_iff_eq.mpr c53
                                  have c53b1 : (t213 != x12_3) = false := bne_eq_false_iff_eq.mpr c53
                                  clear c53
                                  by_cases c54 : a1_1 ≥ 5
                                  · rw [if_pos c54] at H
                                    have c54b0 : decide (5 ≤ a1_1) = true := decide_eq_true c54
                                    clear c54
                                    obtain rfl := Option.some.inj H
                                    simp only [Option.some.injEq, Prod.mk.injEq] at H
                                    obtain ⟨rfl⟩ := H
                                    have hnb55 := NB211_210.out
                                    have hnc55 := NB210_211.out
                                    have hnb56 := NB211_216.out
                                    have hnc56 := NB216_211.out
                                    have hcz57_0 : wr.cell? ⟨gb211, 0, none⟩ = some (.int .i64 a1_0) := (blk_cell BK211.out 0).trans rfl
                                    have hcz57_1 : wr.cell? ⟨gb211, 1, none⟩ = some (.int .i64 a1_1) := (blk_cell BK211.out 1).trans rfl
                                    have hfz57_0 := blk_frozen BK211.out 0
                                    have hfz57_1 := blk_frozen BK211.out 1
                                    have hnb58 := NB216_210.out
                                    have hnc58 := NB210_216.out
                                    have hcz59_0 : wr.cell? ⟨gb216, 0, none⟩ = some (.int .i64 t213) := (blk_cell BK216.out 0).trans rfl
                                    have hcz59_1 : wr.cell? ⟨gb216, 1, none⟩ = some (.int .i64 t214) := (blk_cell BK216.out 1).trans rfl
                                    have hfz59_0 := blk_frozen BK216.out 0
                                    have hfz59_1 := blk_frozen BK216.out 1
                                    have hcz60_0 : wr.cell? ⟨gb210, 0, none⟩ = some (.string a0_0) := (blk_cell BK210.out 0).trans rfl
                                    have hcz60_1 : wr.cell? ⟨gb210, 1, none⟩ = some (.int .i64 a0_1) := (blk_cell BK210.out 1).trans rfl
                                    have hcz60_2 : wr.cell? ⟨gb210, 2, none⟩ = some (.int .i64 a0_2) := (blk_cell BK210.out 2).trans rfl
                                    have hcz60_3 : wr.cell? ⟨gb210, 3, none⟩ = some (.int .i64 a0_3) := (blk_cell BK210.out 3).trans rfl
                                    have hcz60_4 : wr.cell? ⟨gb210, 4, none⟩ = some (.int .i64 a0_4) := (blk_cell BK210.out 4).trans rfl
                                    have hcz60_5 : wr.cell? ⟨gb210, 5, none⟩ = some (.int .i64 a0_5) := (blk_cell BK210.out 5).trans rfl
                                    have hcz60_6 : wr.cell? ⟨gb210, 6, none⟩ = some (.int .i64 a0_6) := (blk_cell BK210.out 6).trans rfl
                                    have hcz60_7 : wr.cell? ⟨gb210, 7, none⟩ = some (.int .i64 a0_7) := (blk_cell BK210.out 7).trans rfl
                                    have hfz60_0 := blk_frozen BK210.out 0
                                    have hfz60_1 := blk_frozen BK210.out 1
                                    have hfz60_2 := blk_frozen BK210.out 2
                                    have hfz60_3 := blk_frozen BK210.out 3
                                    have hfz60_4 := blk_frozen BK210.out 4
                                    have hfz60_5 := blk_frozen BK210.out 5
                                    have hfz60_6 := blk_frozen BK210.out 6
                                    have hfz60_7 := blk_frozen BK210.out 7
                                    go_wp2_with (first | (go_at_call 14; (with_reducible refine (chargeparklaw24_isLevel.calls a0_0 a0_1 a0_2 a0_3 a0_4 a0_5 a0_6 a0_7 t213 true _ A49.out).mono ?_); rintro e w61 ⟨rfl, hb⟩; have n0_ := Aside0.mk (blk_below (g := gb210) (o := .cells #[.string a0_0, .int .i64 a0_1, .int .i64 a0_2, .int .i64 a0_3, .int .i64 a0_4, .int .i64 a0_5, .int .i64 a0_6, .int .i64 a0_7] 23 (0, 0)) (by (with_reducible repeat (first | refine blk_drewN ?_ _ | refine blk_drew ?_ | refine blk_alloc ?_ _)); exact BK210.out) hb); have n1_ := Aside0.mk (blk_below (g := gb211) (o := .cells #[.int .i64 a1_0, .int .i64 a1_1] 25 (0, 0)) (by (with_reducible repeat (first | refine blk_drewN ?_ _ | refine blk_drew ?_ | refine blk_alloc ?_ _)); exact BK211.out) hb); have n2_ := Aside0.mk (blk_below (g := gb216) (o := .cells #[.int .i64 t213, .int .i64 t214] 25 (0, 0)) (by (with_reducible repeat (first | refine blk_drewN ?_ _ | refine blk_drew ?_ | refine blk_alloc ?_ _)); exact BK216.out) hb); have n3_ := Aside0.mk (below_step (by repeat (first | (with_reducible first | exact HB.out | apply below_alloc | apply pw_below_drewN | apply below_drew1 | refine below_set ?_ GE210.out | refine below_set ?_ GE211.out | refine below_set ?_ GE216.out) | exact HB.out)) hb); clear BK210; clear BK211; clear BK216; clear HB; have BK210 := n0_; have BK211 := n1_; have BK216 := n2_; have HB := n3_; clear n0_ n1_ n2_ n3_; (try clear hb); (try clear hb2); (try clear hk); (try clear hi); have hcz62_0 : w61.cell? ⟨gb216, 0, none⟩ = some (.int .i64 t213) := (blk_cell BK216.out 0).trans rfl; have hcz62_1 : w61.cell? ⟨gb216, 1, none⟩ = some (.int .i64 t214) := (blk_cell BK216.out 1).trans rfl; have hfz62_0 := blk_frozen BK216.out 0; have hfz62_1 := blk_frozen BK216.out 1; have hcz63_0 : w61.cell? ⟨gb211, 0, none⟩ = some (.int .i64 a1_0) := (blk_cell BK211.out 0).trans rfl; have hcz63_1 : w61.cell? ⟨gb211, 1, none⟩ = some (.int .i64 a1_1) := (blk_cell BK211.out 1).trans rfl; have hfz63_0 := blk_frozen BK211.out 0; have hfz63_1 := blk_frozen BK211.out 1))
                                    go_ret
                                    exact ⟨by first | rfl | (simp [errW_none, errW_some] <;> rfl) | (simp only [← hji33]; first | rfl | (simp [errW_none, errW_some] <;> rfl)) | (simp [*, errW_none, errW_some] <;> rfl), by repeat (first | (with_reducible first | exact HB.out | apply below_alloc | apply pw_below_drewN | apply below_drew1 | refine below_set ?_ GE210.out | refine below_set ?_ GE211.out | refine below_set ?_ GE216.out) | exact HB.out)⟩
                                  · rw [if_neg c54] at H
                                    have c54b0 : decide (5 ≤ a1_1) = false := decide_eq_false c54
                                    clear c54
                                    obtain rfl := Option.some.inj H
                                    simp only [Option.some.injEq, Prod.mk.injEq] at H
                                    obtain ⟨rfl⟩ := H
                                    have hnb64 := NB211_210.out
                                    have hnc64 := NB210_211.out
                                    have hnb65 := NB211_216.out
                                    have hnc65 := NB216_211.out
                                    have hcz66_0 : wr.cell? ⟨gb211, 0, none⟩ = some (.int .i64 a1_0) := (blk_cell BK211.out 0).trans rfl
                                    have hcz66_1 : wr.cell? ⟨gb211, 1, none⟩ = some (.int .i64 a1_1) := (blk_cell BK211.out 1).trans rfl
                                    have hfz66_0 := blk_frozen BK211.out 0
                                    have hfz66_1 := blk_frozen BK211.out 1
                                    have hnb67 := NB216_210.out
                                    have hnc67 := NB210_216.out
                                    have hcz68_0 : wr.cell? ⟨gb216, 0, none⟩ = some (.int .i64 t213) := (blk_cell BK216.out 0).trans rfl
                                    have hcz68_1 : wr.cell? ⟨gb216, 1, none⟩ = some (.int .i64 t214) := (blk_cell BK216.out 1).trans rfl
                                    have hfz68_0 := blk_frozen BK216.out 0
                                    have hfz68_1 := blk_frozen BK216.out 1
                                    have hcz69_0 : wr.cell? ⟨gb210, 0, none⟩ = some (.string a0_0) := (blk_cell BK210.out 0).trans rfl
                                    have hcz69_1 : wr.cell? ⟨gb210, 1, none⟩ = some (.int .i64 a0_1) := (blk_cell BK210.out 1).trans rfl
                                    have hcz69_2 : wr.cell? ⟨gb210, 2, none⟩ = some (.int .i64 a0_2) := (blk_cell BK210.out 2).trans rfl
                                    have hcz69_3 : wr.cell? ⟨gb210, 3, none⟩ = some (.int .i64 a0_3) := (blk_cell BK210.out 3).trans rfl
                                    have hcz69_4 : wr.cell? ⟨gb210, 4, none⟩ = some (.int .i64 a0_4) := (blk_cell BK210.out 4).trans rfl
                                    have hcz69_5 : wr.cell? ⟨gb210, 5, none⟩ = some (.int .i64 a0_5) := (blk_cell BK210.out 5).trans rfl
                                    have hcz69_6 : wr.cell? ⟨gb210, 6, none⟩ = some (.int .i64 a0_6) := (blk_cell BK210.out 6).trans rfl
                                    have hcz69_7 : wr.cell? ⟨gb210, 7, none⟩ = some (.int .i64 a0_7) := (blk_cell BK210.out 7).trans rfl
                                    have hfz69_0 := blk_frozen BK210.out 0
                                    have hfz69_1 := blk_frozen BK210.out 1
                                    have hfz69_2 := blk_frozen BK210.out 2
                                    have hfz69_3 := blk_frozen BK210.out 3
                                    have hfz69_4 := blk_frozen BK210.out 4
                                    have hfz69_5 := blk_frozen BK210.out 5
                                    have hfz69_6 := blk_frozen BK210.out 6
                                    have hfz69_7 := blk_frozen BK210.out 7
                                    go_wp2_with (first | (go_at_call 14; (with_reducible refine (chargeparklaw24_isLevel.calls a0_0 a0_1 a0_2 a0_3 a0_4 a0_5 a0_6 a0_7 t213 true _ A49.out).mono ?_); rintro e w70 ⟨rfl, hb⟩; have n0_ := Aside0.mk (blk_below (g := gb210) (o := .cells #[.string a0_0, .int .i64 a0_1, .int .i64 a0_2, .int .i64 a0_3, .int .i64 a0_4, .int .i64 a0_5, .int .i64 a0_6, .int .i64 a0_7] 23 (0, 0)) (by (with_reducible repeat (first | refine blk_drewN ?_ _ | refine blk_drew ?_ | refine blk_alloc ?_ _)); exact BK210.out) hb); have n1_ := Aside0.mk (blk_below (g := gb211) (o := .cells #[.int .i64 a1_0, .int .i64 a1_1] 25 (0, 0)) (by (with_reducible repeat (first | refine blk_drewN ?_ _ | refine blk_drew ?_ | refine blk_alloc ?_ _)); exact BK211.out) hb); have n2_ := Aside0.mk (blk_below (g := gb216) (o := .cells #[.int .i64 t213, .int .i64 t214] 25 (0, 0)) (by (with_reducible repeat (first | refine blk_drewN ?_ _ | refine blk_drew ?_ | refine blk_alloc ?_ _)); exact BK216.out) hb); have n3_ := Aside0.mk (below_step (by repeat (first | (with_reducible first | exact HB.out | apply below_alloc | apply pw_below_drewN | apply below_drew1 | refine below_set ?_ GE210.out | refine below_set ?_ GE211.out | refine below_set ?_ GE216.out) | exact HB.out)) hb); clear BK210; clear BK211; clear BK216; clear HB; have BK210 := n0_; have BK211 := n1_; have BK216 := n2_; have HB := n3_; clear n0_ n1_ n2_ n3_; (try clear hb); (try clear hb2); (try clear hk); (try clear hi); have hcz71_0 : w70.cell? ⟨gb216, 0, none⟩ = some (.int .i64 t213) := (blk_cell BK216.out 0).trans rfl; have hcz71_1 : w70.cell? ⟨gb216, 1, none⟩ = some (.int .i64 t214) := (blk_cell BK216.out 1).trans rfl; have hfz71_0 := blk_frozen BK216.out 0; have hfz71_1 := blk_frozen BK216.out 1; have hcz72_0 : w70.cell? ⟨gb211, 0, none⟩ = some (.int .i64 a1_0) := (blk_cell BK211.out 0).trans rfl; have hcz72_1 : w70.cell? ⟨gb211, 1, none⟩ = some (.int .i64 a1_1) := (blk_cell BK211.out 1).trans rfl; have hfz72_0 := blk_frozen BK211.out 0; have hfz72_1 := blk_frozen BK211.out 1))
                                    go_ret
                                    exact ⟨by first | rfl | (simp [errW_none, errW_some] <;> rfl) | (simp only [← hji33]; first | rfl | (simp [errW_none, errW_some] <;> rfl)) | (simp [*, errW_none, errW_some] <;> rfl), by repeat (first | (with_reducible first | exact HB.out | apply below_alloc | apply pw_below_drewN | apply below_drew1 | refine below_set ?_ GE210.out | refine below_set ?_ GE211.out | refine below_set ?_ GE216.out) | exact HB.out)⟩
                                · rw [if_neg c53] at H
                                  have c53b0 : (t213 == x12_3) = false := beq_eq_false_iff_ne.mpr c53
                                  have c53b1 : (t213 != x12_3) = true := bne_iff_ne.mpr c53
                                  by_cases c73 : t213 = 0
                                  · rw [if_pos c73] at H
                                    have c73b0 : (t213 == 0) = true := beq_iff_eq.mpr c73
                                    have c73b1 : (t213 != 0) = false := bne_eq_false_iff_eq.mpr c73
                                    clear c73
                                    by_cases c74 : a1_1 ≥ 5
                                    · rw [if_pos c74] at H
                                      have c74b0 : decide (5 ≤ a1_1) = true := decide_eq_true c74
                                      clear c74
                                      obtain rfl := Option.some.inj H
                                      simp only [Option.some.injEq, Prod.mk.injEq] at H
                                      obtain ⟨rfl⟩ := H
                                      have hnb75 := NB211_210.out
                                      have hnc75 := NB210_211.out
                                      have hnb76 := NB211_216.out
                                      have hnc76 := NB216_211.out
                                      have hcz77_0 : wr.cell? ⟨gb211, 0, none⟩ = some (.int .i64 a1_0) := (blk_cell BK211.out 0).trans rfl
                                      have hcz77_1 : wr.cell? ⟨gb211, 1, none⟩ = some (.int .i64 a1_1) := (blk_cell BK211.out 1).trans rfl
                                      have hfz77_0 := blk_frozen BK211.out 0
                                      have hfz77_1 := blk_frozen BK211.out 1
                                      have hnb78 := NB216_210.out
                                      have hnc78 := NB210_216.out
                                      have hcz79_0 : wr.cell? ⟨gb216, 0, none⟩ = some (.int .i64 t213) := (blk_cell BK216.out 0).trans rfl
                                      have hcz79_1 : wr.cell? ⟨gb216, 1, none⟩ = some (.int .i64 t214) := (blk_cell BK216.out 1).trans rfl
                                      have hfz79_0 := blk_frozen BK216.out 0
                                      have hfz79_1 := blk_frozen BK216.out 1
                                      have hcz80_0 : wr.cell? ⟨gb210, 0, none⟩ = some (.string a0_0) := (blk_cell BK210.out 0).trans rfl
                                      have hcz80_1 : wr.cell? ⟨gb210, 1, none⟩ = some (.int .i64 a0_1) := (blk_cell BK210.out 1).trans rfl
                                      have hcz80_2 : wr.cell? ⟨gb210, 2, none⟩ = some (.int .i64 a0_2) := (blk_cell BK210.out 2).trans rfl
                                      have hcz80_3 : wr.cell? ⟨gb210, 3, none⟩ = some (.int .i64 a0_3) := (blk_cell BK210.out 3).trans rfl
                                      have hcz80_4 : wr.cell? ⟨gb210, 4, none⟩ = some (.int .i64 a0_4) := (blk_cell BK210.out 4).trans rfl
                                      have hcz80_5 : wr.cell? ⟨gb210, 5, none⟩ = some (.int .i64 a0_5) := (blk_cell BK210.out 5).trans rfl
                                      have hcz80_6 : wr.cell? ⟨gb210, 6, none⟩ = some (.int .i64 a0_6) := (blk_cell BK210.out 6).trans rfl
                                      have hcz80_7 : wr.cell? ⟨gb210, 7, none⟩ = some (.int .i64 a0_7) := (blk_cell BK210.out 7).trans rfl
                                      have hfz80_0 := blk_frozen BK210.out 0
                                      have hfz80_1 := blk_frozen BK210.out 1
                                      have hfz80_2 := blk_frozen BK210.out 2
                                      have hfz80_3 := blk_frozen BK210.out 3
                                      have hfz80_4 := blk_frozen BK210.out 4
                                      have hfz80_5 := blk_frozen BK210.out 5
                                      have hfz80_6 := blk_frozen BK210.out 6
                                      have hfz80_7 := blk_frozen BK210.out 7
                                      go_wp2_with (first | (go_at_call 14; (with_reducible refine (chargeparklaw24_isLevel.calls a0_0 a0_1 a0_2 a0_3 a0_4 a0_5 a0_6 a0_7 t213 true _ A49.out).mono ?_); rintro e w81 ⟨rfl, hb⟩; have n0_ := Aside0.mk (blk_below (g := gb210) (o := .cells #[.string a0_0, .int .i64 a0_1, .int .i64 a0_2, .int .i64 a0_3, .int .i64 a0_4, .int .i64 a0_5, .int .i64 a0_6, .int .i64 a0_7] 23 (0, 0)) (by (with_reducible repeat (first | refine blk_drewN ?_ _ | refine blk_drew ?_ | refine blk_alloc ?_ _)); exact BK210.out) hb); have n1_ := Aside0.mk (blk_below (g := gb211) (o := .cells #[.int .i64 a1_0, .int .i64 a1_1] 25 (0, 0)) (by (with_reducible repeat (first | refine blk_drewN ?_ _ | refine blk_drew ?_ | refine blk_alloc ?_ _)); exact BK211.out) hb); have n2_ := Aside0.mk (blk_below (g := gb216) (o := .cells #[.int .i64 t213, .int .i64 t214] 25 (0, 0)) (by (with_reducible repeat (first | refine blk_drewN ?_ _ | refine blk_drew ?_ | refine blk_alloc ?_ _)); exact BK216.out) hb); have n3_ := Aside0.mk (below_step (by repeat (first | (with_reducible first | exact HB.out | apply below_alloc | apply pw_below_drewN | apply below_drew1 | refine below_set ?_ GE210.out | refine below_set ?_ GE211.out | refine below_set ?_ GE216.out) | exact HB.out)) hb); clear BK210; clear BK211; clear BK216; clear HB; have BK210 := n0_; have BK211 := n1_; have BK216 := n2_; have HB := n3_; clear n0_ n1_ n2_ n3_; (try clear hb); (try clear hb2); (try clear hk); (try clear hi); have hcz82_0 : w81.cell? ⟨gb216, 0, none⟩ = some (.int .i64 t213) := (blk_cell BK216.out 0).trans rfl; have hcz82_1 : w81.cell? ⟨gb216, 1, none⟩ = some (.int .i64 t214) := (blk_cell BK216.out 1).trans rfl; have hfz82_0 := blk_frozen BK216.out 0; have hfz82_1 := blk_frozen BK216.out 1; have hcz83_0 : w81.cell? ⟨gb211, 0, none⟩ = some (.int .i64 a1_0) := (blk_cell BK211.out 0).trans rfl; have hcz83_1 : w81.cell? ⟨gb211, 1, none⟩ = some (.int .i64 a1_1) := (blk_cell BK211.out 1).trans rfl; have hfz83_0 := blk_frozen BK211.out 0; have hfz83_1 := blk_frozen BK211.out 1))
                                      go_ret
                                      exact ⟨by first | rfl | (simp [errW_none, errW_some] <;> rfl) | (simp only [← hji33]; first | rfl | (simp [errW_none, errW_some] <;> rfl)) | (simp [*, errW_none, errW_some] <;> rfl), by repeat (first | (with_reducible first | exact HB.out | apply below_alloc | apply pw_below_drewN | apply below_drew1 | refine below_set ?_ GE210.out | refine below_set ?_ GE211.out | refine below_set ?_ GE216.out) | exact HB.out)⟩
                                    · rw [if_neg c74] at H
                                      have c74b0 : decide (5 ≤ a1_1) = false := decide_eq_false c74
                                      clear c74
                                      obtain rfl := Option.some.inj H
                                      simp only [Option.some.injEq, Prod.mk.injEq] at H
                                      obtain ⟨rfl⟩ := H
                                      have hnb84 := NB211_210.out
                                      have hnc84 := NB210_211.out
                                      have hnb85 := NB211_216.out
                                      have hnc85 := NB216_211.out
                                      have hcz86_0 : wr.cell? ⟨gb211, 0, none⟩ = some (.int .i64 a1_0) := (blk_cell BK211.out 0).trans rfl
                                      have hcz86_1 : wr.cell? ⟨gb211, 1, none⟩ = some (.int .i64 a1_1) := (blk_cell BK211.out 1).trans rfl
                                      have hfz86_0 := blk_frozen BK211.out 0
                                      have hfz86_1 := blk_frozen BK211.out 1
                                      have hnb87 := NB216_210.out
                                      have hnc87 := NB210_216.out
                                      have hcz88_0 : wr.cell? ⟨gb216, 0, none⟩ = some (.int .i64 t213) := (blk_cell BK216.out 0).trans rfl
                                      have hcz88_1 : wr.cell? ⟨gb216, 1, none⟩ = some (.int .i64 t214) := (blk_cell BK216.out 1).trans rfl
                                      have hfz88_0 := blk_frozen BK216.out 0
                                      have hfz88_1 := blk_frozen BK216.out 1
                                      have hcz89_0 : wr.cell? ⟨gb210, 0, none⟩ = some (.string a0_0) := (blk_cell BK210.out 0).trans rfl
                                      have hcz89_1 : wr.cell? ⟨gb210, 1, none⟩ = some (.int .i64 a0_1) := (blk_cell BK210.out 1).trans rfl
                                      have hcz89_2 : wr.cell? ⟨gb210, 2, none⟩ = some (.int .i64 a0_2) := (blk_cell BK210.out 2).trans rfl
                                      have hcz89_3 : wr.cell? ⟨gb210, 3, none⟩ = some (.int .i64 a0_3) := (blk_cell BK210.out 3).trans rfl
                                      have hcz89_4 : wr.cell? ⟨gb210, 4, none⟩ = some (.int .i64 a0_4) := (blk_cell BK210.out 4).trans rfl
                                      have hcz89_5 : wr.cell? ⟨gb210, 5, none⟩ = some (.int .i64 a0_5) := (blk_cell BK210.out 5).trans rfl
                                      have hcz89_6 : wr.cell? ⟨gb210, 6, none⟩ = some (.int .i64 a0_6) := (blk_cell BK210.out 6).trans rfl
                                      have hcz89_7 : wr.cell? ⟨gb210, 7, none⟩ = some (.int .i64 a0_7) := (blk_cell BK210.out 7).trans rfl
                                      have hfz89_0 := blk_frozen BK210.out 0
                                      have hfz89_1 := blk_frozen BK210.out 1
                                      have hfz89_2 := blk_frozen BK210.out 2
                                      have hfz89_3 := blk_frozen BK210.out 3
                                      have hfz89_4 := blk_frozen BK210.out 4
                                      have hfz89_5 := blk_frozen BK210.out 5
                                      have hfz89_6 := blk_frozen BK210.out 6
                                      have hfz89_7 := blk_frozen BK210.out 7
                                      go_wp2_with (first | (go_at_call 14; (with_reducible refine (chargeparklaw24_isLevel.calls a0_0 a0_1 a0_2 a0_3 a0_4 a0_5 a0_6 a0_7 t213 true _ A49.out).mono ?_); rintro e w90 ⟨rfl, hb⟩; have n0_ := Aside0.mk (blk_below (g := gb210) (o := .cells #[.string a0_0, .int .i64 a0_1, .int .i64 a0_2, .int .i64 a0_3, .int .i64 a0_4, .int .i64 a0_5, .int .i64 a0_6, .int .i64 a0_7] 23 (0, 0)) (by (with_reducible repeat (first | refine blk_drewN ?_ _ | refine blk_drew ?_ | refine blk_alloc ?_ _)); exact BK210.out) hb); have n1_ := Aside0.mk (blk_below (g := gb211) (o := .cells #[.int .i64 a1_0, .int .i64 a1_1] 25 (0, 0)) (by (with_reducible repeat (first | refine blk_drewN ?_ _ | refine blk_drew ?_ | refine blk_alloc ?_ _)); exact BK211.out) hb); have n2_ := Aside0.mk (blk_below (g := gb216) (o := .cells #[.int .i64 t213, .int .i64 t214] 25 (0, 0)) (by (with_reducible repeat (first | refine blk_drewN ?_ _ | refine blk_drew ?_ | refine blk_alloc ?_ _)); exact BK216.out) hb); have n3_ := Aside0.mk (below_step (by repeat (first | (with_reducible first | exact HB.out | apply below_alloc | apply pw_below_drewN | apply below_drew1 | refine below_set ?_ GE210.out | refine below_set ?_ GE211.out | refine below_set ?_ GE216.out) | exact HB.out)) hb); clear BK210; clear BK211; clear BK216; clear HB; have BK210 := n0_; have BK211 := n1_; have BK216 := n2_; have HB := n3_; clear n0_ n1_ n2_ n3_; (try clear hb); (try clear hb2); (try clear hk); (try clear hi); have hcz91_0 : w90.cell? ⟨gb216, 0, none⟩ = some (.int .i64 t213) := (blk_cell BK216.out 0).trans rfl; have hcz91_1 : w90.cell? ⟨gb216, 1, none⟩ = some (.int .i64 t214) := (blk_cell BK216.out 1).trans rfl; have hfz91_0 := blk_frozen BK216.out 0; have hfz91_1 := blk_frozen BK216.out 1; have hcz92_0 : w90.cell? ⟨gb211, 0, none⟩ = some (.int .i64 a1_0) := (blk_cell BK211.out 0).trans rfl; have hcz92_1 : w90.cell? ⟨gb211, 1, none⟩ = some (.int .i64 a1_1) := (blk_cell BK211.out 1).trans rfl; have hfz92_0 := blk_frozen BK211.out 0; have hfz92_1 := blk_frozen BK211.out 1))
                                      go_ret
                                      exact ⟨by first | rfl | (simp [errW_none, errW_some] <;> rfl) | (simp only [← hji33]; first | rfl | (simp [errW_none, errW_some] <;> rfl)) | (simp [*, errW_none, errW_some] <;> rfl), by repeat (first | (with_reducible first | exact HB.out | apply below_alloc | apply pw_below_drewN | apply below_drew1 | refine below_set ?_ GE210.out | refine below_set ?_ GE211.out | refine below_set ?_ GE216.out) | exact HB.out)⟩
                                  · rw [if_neg c73] at H
                                    have c73b0 : (t213 == 0) = false := beq_eq_false_iff_ne.mpr c73
                                    have c73b1 : (t213 != 0) = true := bne_iff_ne.mpr c73
                                    obtain rfl := Option.some.inj H
                                    exact absurd hr.out (by decide)
                              · rw [if_neg c52] at H
                                have c52b0 : decide (t213 ≤ x11_17) = false := decide_eq_false c52
                                clear c52
                                obtain rfl := Option.some.inj H
                                exact absurd hr.out (by decide)
                            · rw [if_neg c51] at H
                              have c51b0 : decide (t213 ≤ a2) = false := decide_eq_false c51
                              clear c51
                              obtain rfl := Option.some.inj H
                              exact absurd hr.out (by decide)
                          · replace c50 := Bool.eq_false_iff.mpr c50
                            subst c50
                            have H1 : (some false) = some r := by rw [if_neg (show ¬ (false = true) by decide)] at H; exact H
                            clear H
                            have H := H1
                            clear H1
                            obtain rfl := Option.some.inj H
                            exact absurd hr.out (by decide)
                        · rw [if_neg c48] at H
                          have c48b0 : (t215 == 0) = false := beq_eq_false_iff_ne.mpr c48
                          have c48b1 : (t215 != 0) = true := bne_iff_ne.mpr c48
                          obtain rfl := Option.some.inj H
                          exact absurd hr.out (by decide)
                      · exact absurd rfl c47
                    · rw [if_neg c46] at H
                      have c46b0 : decide (a1_1 < 5) = false := decide_eq_false c46
                      clear c46
                      by_cases c93 : (true = true)
                      · clear c93
                        have H1 : (if t215 = 0 then ((chargeparklaw24_isLevel.f a0_0 a0_1 a0_2 a0_3 a0_4 a0_5 a0_6 a0_7 t213).bind fun t219 => (if t219 = true then (if t213 ≤ a2 then (if t213 ≤ x11_17 then (if t213 = x12_3 then (if a1_1 ≥ 5 then (some true) else (some (t213 == 0))) else (some false)) else (some false)) else (some false)) else (some false))) else (some false)) = some r := by rw [if_pos rfl] at H; exact H
                        clear H
                        have H := H1
                        clear H1
                        by_cases c94 : t215 = 0
                        · rw [if_pos c94] at H
                          have c94b0 : (t215 == 0) = true := beq_iff_eq.mpr c94
                          have c94b1 : (t215 != 0) = false := bne_eq_false_iff_eq.mpr c94
                          clear c94
                          replace H := Option.bind_eq_some_iff.mp H
                          obtain ⟨t219, A950, H⟩ := H
                          replace H : (if t219 = true then (if t213 ≤ a2 then (if t213 ≤ x11_17 then (if t213 = x12_3 then (if a1_1 ≥ 5 then (some true) else (some (t213 == 0))) else (some false)) else (some false)) else (some false)) else (some false)) = some r := H
                          have A95 := Aside0.mk A950
                          clear A950
                          by_cases c96 : t219 = true
                          · subst c96
                            have H1 : (if t213 ≤ a2 then (if t213 ≤ x11_17 then (if t213 = x12_3 then (if a1_1 ≥ 5 then (some true) else (some (t213 == 0))) else (some false)) else (some false)) else (some false)) = some r := by rw [if_pos rfl] at H; exact H
                            clear H
                            have H := H1
                            clear H1
                            by_cases c97 : t213 ≤ a2
                            · rw [if_pos c97] at H
                              have c97b0 : decide (t213 ≤ a2) = true := decide_eq_true c97
                              clear c97
                              by_cases c98 : t213 ≤ x11_17
                              · rw [if_pos c98] at H
                                have c98b0 : decide (t213 ≤ x11_17) = true := decide_eq_true c98
                                clear c98
                                by_cases c99 : t213 = x12_3
                                · rw [if_pos c99] at H
                                  have c99b0 : (t213 == x12_3) = true := beq_iff_eq.mpr c99
                                  have c99b1 : (t213 != x12_3) = false := bne_eq_false_iff_eq.mpr c99
                                  clear c99
                                  by_cases c100 : a1_1 ≥ 5
                                  · rw [if_pos c100] at H
                                    have c100b0 : decide (5 ≤ a1_1) = true := decide_eq_true c100
                                    clear c100
                                    obtain rfl := Option.some.inj H
                                    simp only [Option.some.injEq, Prod.mk.injEq] at H
                                    obtain ⟨rfl⟩ := H
                                    have hnb101 := NB211_210.out
                                    have hnc101 := NB210_211.out
                                    have hnb102 := NB211_216.out
                                    have hnc102 := NB216_211.out
                                    have hcz103_0 : wr.cell? ⟨gb211, 0, none⟩ = some (.int .i64 a1_0) := (blk_cell BK211.out 0).trans rfl
                                    have hcz103_1 : wr.cell? ⟨gb211, 1, none⟩ = some (.int .i64 a1_1) := (blk_cell BK211.out 1).trans rfl
                                    have hfz103_0 := blk_frozen BK211.out 0
                                    have hfz103_1 := blk_frozen BK211.out 1
                                    have hnb104 := NB210_216.out
                                    have hnc104 := NB216_210.out
                                    have hcz105_0 : wr.cell? ⟨gb210, 0, none⟩ = some (.string a0_0) := (blk_cell BK210.out 0).trans rfl
                                    have hcz105_1 : wr.cell? ⟨gb210, 1, none⟩ = some (.int .i64 a0_1) := (blk_cell BK210.out 1).trans rfl
                                    have hcz105_2 : wr.cell? ⟨gb210, 2, none⟩ = some (.int .i64 a0_2) := (blk_cell BK210.out 2).trans rfl
                                    have hcz105_3 : wr.cell? ⟨gb210, 3, none⟩ = some (.int .i64 a0_3) := (blk_cell BK210.out 3).trans rfl
                                    have hcz105_4 : wr.cell? ⟨gb210, 4, none⟩ = some (.int .i64 a0_4) := (blk_cell BK210.out 4).trans rfl
                                    have hcz105_5 : wr.cell? ⟨gb210, 5, none⟩ = some (.int .i64 a0_5) := (blk_cell BK210.out 5).trans rfl
                                    have hcz105_6 : wr.cell? ⟨gb210, 6, none⟩ = some (.int .i64 a0_6) := (blk_cell BK210.out 6).trans rfl
                                    have hcz105_7 : wr.cell? ⟨gb210, 7, none⟩ = some (.int .i64 a0_7) := (blk_cell BK210.out 7).trans rfl
                                    have hfz105_0 := blk_frozen BK210.out 0
                                    have hfz105_1 := blk_frozen BK210.out 1
                                    have hfz105_2 := blk_frozen BK210.out 2
                                    have hfz105_3 := blk_frozen BK210.out 3
                                    have hfz105_4 := blk_frozen BK210.out 4
                                    have hfz105_5 := blk_frozen BK210.out 5
                                    have hfz105_6 := blk_frozen BK210.out 6
                                    have hfz105_7 := blk_frozen BK210.out 7
                                    have hcz106_0 : wr.cell? ⟨gb216, 0, none⟩ = some (.int .i64 t213) := (blk_cell BK216.out 0).trans rfl
                                    have hcz106_1 : wr.cell? ⟨gb216, 1, none⟩ = some (.int .i64 t214) := (blk_cell BK216.out 1).trans rfl
                                    have hfz106_0 := blk_frozen BK216.out 0
                                    have hfz106_1 := blk_frozen BK216.out 1
                                    go_wp2_with (first | (go_at_call 14; (with_reducible refine (chargeparklaw24_isLevel.calls a0_0 a0_1 a0_2 a0_3 a0_4 a0_5 a0_6 a0_7 t213 true _ A95.out).mono ?_); rintro e w107 ⟨rfl, hb⟩; have n0_ := Aside0.mk (blk_below (g := gb210) (o := .cells #[.string a0_0, .int .i64 a0_1, .int .i64 a0_2, .int .i64 a0_3, .int .i64 a0_4, .int .i64 a0_5, .int .i64 a0_6, .int .i64 a0_7] 23 (0, 0)) (by (with_reducible repeat (first | refine blk_drewN ?_ _ | refine blk_drew ?_ | refine blk_alloc ?_ _)); exact BK210.out) hb); have n1_ := Aside0.mk (blk_below (g := gb211) (o := .cells #[.int .i64 a1_0, .int .i64 a1_1] 25 (0, 0)) (by (with_reducible repeat (first | refine blk_drewN ?_ _ | refine blk_drew ?_ | refine blk_alloc ?_ _)); exact BK211.out) hb); have n2_ := Aside0.mk (blk_below (g := gb216) (o := .cells #[.int .i64 t213, .int .i64 t214] 25 (0, 0)) (by (with_reducible repeat (first | refine blk_drewN ?_ _ | refine blk_drew ?_ | refine blk_alloc ?_ _)); exact BK216.out) hb); have n3_ := Aside0.mk (below_step (by repeat (first | (with_reducible first | exact HB.out | apply below_alloc | apply pw_below_drewN | apply below_drew1 | refine below_set ?_ GE210.out | refine below_set ?_ GE211.out | refine below_set ?_ GE216.out) | exact HB.out)) hb); clear BK210; clear BK211; clear BK216; clear HB; have BK210 := n0_; have BK211 := n1_; have BK216 := n2_; have HB := n3_; clear n0_ n1_ n2_ n3_; (try clear hb); (try clear hb2); (try clear hk); (try clear hi); have hcz108_0 : w107.cell? ⟨gb216, 0, none⟩ = some (.int .i64 t213) := (blk_cell BK216.out 0).trans rfl; have hcz108_1 : w107.cell? ⟨gb216, 1, none⟩ = some (.int .i64 t214) := (blk_cell BK216.out 1).trans rfl; have hfz108_0 := blk_frozen BK216.out 0; have hfz108_1 := blk_frozen BK216.out 1; have hcz109_0 : w107.cell? ⟨gb211, 0, none⟩ = some (.int .i64 a1_0) := (blk_cell BK211.out 0).trans rfl; have hcz109_1 : w107.cell? ⟨gb211, 1, none⟩ = some (.int .i64 a1_1) := (blk_cell BK211.out 1).trans rfl; have hfz109_0 := blk_frozen BK211.out 0; have hfz109_1 := blk_frozen BK211.out 1))
                                    go_ret
                                    exact ⟨by first | rfl | (simp [errW_none, errW_some] <;> rfl) | (simp only [← hji33]; first | rfl | (simp [errW_none, errW_some] <;> rfl)) | (simp [*, errW_none, errW_some] <;> rfl), by repeat (first | (with_reducible first | exact HB.out | apply below_alloc | apply pw_below_drewN | apply below_drew1 | refine below_set ?_ GE210.out | refine below_set ?_ GE211.out | refine below_set ?_ GE216.out) | exact HB.out)⟩
                                  · rw [if_neg c100] at H
                                    have c100b0 : decide (5 ≤ a1_1) = false := decide_eq_false c100
                                    clear c100
                                    obtain rfl := Option.some.inj H
                                    simp only [Option.some.injEq, Prod.mk.injEq] at H
                                    obtain ⟨rfl⟩ := H
                                    have hnb110 := NB211_210.out
                                    have hnc110 := NB210_211.out
                                    have hnb111 := NB211_216.out
                                    have hnc111 := NB216_211.out
                                    have hcz112_0 : wr.cell? ⟨gb211, 0, none⟩ = some (.int .i64 a1_0) := (blk_cell BK211.out 0).trans rfl
                                    have hcz112_1 : wr.cell? ⟨gb211, 1, none⟩ = some (.int .i64 a1_1) := (blk_cell BK211.out 1).trans rfl
                                    have hfz112_0 := blk_frozen BK211.out 0
                                    have hfz112_1 := blk_frozen BK211.out 1
                                    have hnb113 := NB210_216.out
                                    have hnc113 := NB216_210.out
                                    have hcz114_0 : wr.cell? ⟨gb210, 0, none⟩ = some (.string a0_0) := (blk_cell BK210.out 0).trans rfl
                                    have hcz114_1 : wr.cell? ⟨gb210, 1, none⟩ = some (.int .i64 a0_1) := (blk_cell BK210.out 1).trans rfl
                                    have hcz114_2 : wr.cell? ⟨gb210, 2, none⟩ = some (.int .i64 a0_2) := (blk_cell BK210.out 2).trans rfl
                                    have hcz114_3 : wr.cell? ⟨gb210, 3, none⟩ = some (.int .i64 a0_3) := (blk_cell BK210.out 3).trans rfl
                                    have hcz114_4 : wr.cell? ⟨gb210, 4, none⟩ = some (.int .i64 a0_4) := (blk_cell BK210.out 4).trans rfl
                                    have hcz114_5 : wr.cell? ⟨gb210, 5, none⟩ = some (.int .i64 a0_5) := (blk_cell BK210.out 5).trans rfl
                                    have hcz114_6 : wr.cell? ⟨gb210, 6, none⟩ = some (.int .i64 a0_6) := (blk_cell BK210.out 6).trans rfl
                                    have hcz114_7 : wr.cell? ⟨gb210, 7, none⟩ = some (.int .i64 a0_7) := (blk_cell BK210.out 7).trans rfl
                                    have hfz114_0 := blk_frozen BK210.out 0
                                    have hfz114_1 := blk_frozen BK210.out 1
                                    have hfz114_2 := blk_frozen BK210.out 2
                                    have hfz114_3 := blk_frozen BK210.out 3
                                    have hfz114_4 := blk_frozen BK210.out 4
                                    have hfz114_5 := blk_frozen BK210.out 5
                                    have hfz114_6 := blk_frozen BK210.out 6
                                    have hfz114_7 := blk_frozen BK210.out 7
                                    have hcz115_0 : wr.cell? ⟨gb216, 0, none⟩ = some (.int .i64 t213) := (blk_cell BK216.out 0).trans rfl
                                    have hcz115_1 : wr.cell? ⟨gb216, 1, none⟩ = some (.int .i64 t214) := (blk_cell BK216.out 1).trans rfl
                                    have hfz115_0 := blk_frozen BK216.out 0
                                    have hfz115_1 := blk_frozen BK216.out 1
                                    go_wp2_with (first | (go_at_call 14; (with_reducible refine (chargeparklaw24_isLevel.calls a0_0 a0_1 a0_2 a0_3 a0_4 a0_5 a0_6 a0_7 t213 true _ A95.out).mono ?_); rintro e w116 ⟨rfl, hb⟩; have n0_ := Aside0.mk (blk_below (g := gb210) (o := .cells #[.string a0_0, .int .i64 a0_1, .int .i64 a0_2, .int .i64 a0_3, .int .i64 a0_4, .int .i64 a0_5, .int .i64 a0_6, .int .i64 a0_7] 23 (0, 0)) (by (with_reducible repeat (first | refine blk_drewN ?_ _ | refine blk_drew ?_ | refine blk_alloc ?_ _)); exact BK210.out) hb); have n1_ := Aside0.mk (blk_below (g := gb211) (o := .cells #[.int .i64 a1_0, .int .i64 a1_1] 25 (0, 0)) (by (with_reducible repeat (first | refine blk_drewN ?_ _ | refine blk_drew ?_ | refine blk_alloc ?_ _)); exact BK211.out) hb); have n2_ := Aside0.mk (blk_below (g := gb216) (o := .cells #[.int .i64 t213, .int .i64 t214] 25 (0, 0)) (by (with_reducible repeat (first | refine blk_drewN ?_ _ | refine blk_drew ?_ | refine blk_alloc ?_ _)); exact BK216.out) hb); have n3_ := Aside0.mk (below_step (by repeat (first | (with_reducible first | exact HB.out | apply below_alloc | apply pw_below_drewN | apply below_drew1 | refine below_set ?_ GE210.out | refine below_set ?_ GE211.out | refine below_set ?_ GE216.out) | exact HB.out)) hb); clear BK210; clear BK211; clear BK216; clear HB; have BK210 := n0_; have BK211 := n1_; have BK216 := n2_; have HB := n3_; clear n0_ n1_ n2_ n3_; (try clear hb); (try clear hb2); (try clear hk); (try clear hi); have hcz117_0 : w116.cell? ⟨gb216, 0, none⟩ = some (.int .i64 t213) := (blk_cell BK216.out 0).trans rfl; have hcz117_1 : w116.cell? ⟨gb216, 1, none⟩ = some (.int .i64 t214) := (blk_cell BK216.out 1).trans rfl; have hfz117_0 := blk_frozen BK216.out 0; have hfz117_1 := blk_frozen BK216.out 1; have hcz118_0 : w116.cell? ⟨gb211, 0, none⟩ = some (.int .i64 a1_0) := (blk_cell BK211.out 0).trans rfl; have hcz118_1 : w116.cell? ⟨gb211, 1, none⟩ = some (.int .i64 a1_1) := (blk_cell BK211.out 1).trans rfl; have hfz118_0 := blk_frozen BK211.out 0; have hfz118_1 := blk_frozen BK211.out 1))
                                    go_ret
                                    exact ⟨by first | rfl | (simp [errW_none, errW_some] <;> rfl) | (simp only [← hji33]; first | rfl | (simp [errW_none, errW_some] <;> rfl)) | (simp [*, errW_none, errW_some] <;> rfl), by repeat (first | (with_reducible first | exact HB.out | apply below_alloc | apply pw_below_drewN | apply below_drew1 | refine below_set ?_ GE210.out | refine below_set ?_ GE211.out | refine below_set ?_ GE216.out) | exact HB.out)⟩
                                · rw [if_neg c99] at H
                                  have c99b0 : (t213 == x12_3) = false := beq_eq_false_iff_ne.mpr c99
                                  have c99b1 : (t213 != x12_3) = true := bne_iff_ne.mpr c99
                                  obtain rfl := Option.some.inj H
                                  exact absurd hr.out (by decide)
                              · rw [if_neg c98] at H
                                have c98b0 : decide (t213 ≤ x11_17) = false := decide_eq_false c98
                                clear c98
                                obtain rfl := Option.some.inj H
                                exact absurd hr.out (by decide)
                            · rw [if_neg c97] at H
                              have c97b0 : decide (t213 ≤ a2) = false := decide_eq_false c97
                              clear c97
                              obtain rfl := Option.some.inj H
                              exact absurd hr.out (by decide)
                          · replace c96 := Bool.eq_false_iff.mpr c96
                            subst c96
                            have H1 : (some false) = some r := by rw [if_neg (show ¬ (false = true) by decide)] at H; exact H
                            clear H
                            have H := H1
                            clear H1
                            obtain rfl := Option.some.inj H
                            exact absurd hr.out (by decide)
                        · rw [if_neg c94] at H
                          have c94b0 : (t215 == 0) = false := beq_eq_false_iff_ne.mpr c94
                          have c94b1 : (t215 != 0) = true := bne_iff_ne.mpr c94
                          obtain rfl := Option.some.inj H
                          exact absurd hr.out (by decide)
                      · exact absurd rfl c93
                  · rw [if_neg c45] at H
                    have c45b0 : (a1_0 == 0) = false := beq_eq_false_iff_ne.mpr c45
                    have c45b1 : (a1_0 != 0) = true := bne_iff_ne.mpr c45
                    by_cases c119 : (true = true)
                    · clear c119
                      have H1 : (if t215 = 0 then ((chargeparklaw24_isLevel.f a0_0 a0_1 a0_2 a0_3 a0_4 a0_5 a0_6 a0_7 t213).bind fun t220 => (if t220 = true then (if t213 ≤ a2 then (if t213 ≤ x11_17 then (if t213 = x12_3 then (some true) else (some false)) else (some false)) else (some false)) else (some false))) else (some false)) = some r := by rw [if_pos rfl] at H; exact H
                      clear H
                      have H := H1
                      clear H1
                      by_cases c120 : t215 = 0
                      · rw [if_pos c120] at H
                        have c120b0 : (t215 == 0) = true := beq_iff_eq.mpr c120
                        have c120b1 : (t215 != 0) = false := bne_eq_false_iff_eq.mpr c120
                        clear c120
                        replace H := Option.bind_eq_some_iff.mp H
                        obtain ⟨t220, A1210, H⟩ := H
                        replace H : (if t220 = true then (if t213 ≤ a2 then (if t213 ≤ x11_17 then (if t213 = x12_3 then (some true) else (some false)) else (some false)) else (some false)) else (some false)) = some r := H
                        have A121 := Aside0.mk A1210
                        clear A1210
                        by_cases c122 : t220 = true
                        · subst c122
                          have H1 : (if t213 ≤ a2 then (if t213 ≤ x11_17 then (if t213 = x12_3 then (some true) else (some false)) else (some false)) else (some false)) = some r := by rw [if_pos rfl] at H; exact H
                          clear H
                          have H := H1
                          clear H1
                          by_cases c123 : t213 ≤ a2
                          · rw [if_pos c123] at H
                            have c123b0 : decide (t213 ≤ a2) = true := decide_eq_true c123
                            clear c123
                            by_cases c124 : t213 ≤ x11_17
                            · rw [if_pos c124] at H
                              have c124b0 : decide (t213 ≤ x11_17) = true := decide_eq_true c124
                              clear c124
                              by_cases c125 : t213 = x12_3
                              · rw [if_pos c125] at H
                                have c125b0 : (t213 == x12_3) = true := beq_iff_eq.mpr c125
                                have c125b1 : (t213 != x12_3) = false := bne_eq_false_iff_eq.mpr c125
                                clear c125
                                obtain rfl := Option.some.inj H
                                simp only [Option.some.injEq, Prod.mk.injEq] at H
                                obtain ⟨rfl⟩ := H
                                have hnb126 := NB211_210.out
                                have hnc126 := NB210_211.out
                                have hnb127 := NB211_216.out
                                have hnc127 := NB216_211.out
                                have hcz128_0 : wr.cell? ⟨gb211, 0, none⟩ = some (.int .i64 a1_0) := (blk_cell BK211.out 0).trans rfl
                                have hcz128_1 : wr.cell? ⟨gb211, 1, none⟩ = some (.int .i64 a1_1) := (blk_cell BK211.out 1).trans rfl
                                have hfz128_0 := blk_frozen BK211.out 0
                                have hfz128_1 := blk_frozen BK211.out 1
                                have hnb129 := NB210_216.out
                                have hnc129 := NB216_210.out
                                have hcz130_0 : wr.cell? ⟨gb210, 0, none⟩ = some (.string a0_0) := (blk_cell BK210.out 0).trans rfl
                                have hcz130_1 : wr.cell? ⟨gb210, 1, none⟩ = some (.int .i64 a0_1) := (blk_cell BK210.out 1).trans rfl
                                have hcz130_2 : wr.cell? ⟨gb210, 2, none⟩ = some (.int .i64 a0_2) := (blk_cell BK210.out 2).trans rfl
                                have hcz130_3 : wr.cell? ⟨gb210, 3, none⟩ = some (.int .i64 a0_3) := (blk_cell BK210.out 3).trans rfl
                                have hcz130_4 : wr.cell? ⟨gb210, 4, none⟩ = some (.int .i64 a0_4) := (blk_cell BK210.out 4).trans rfl
                                have hcz130_5 : wr.cell? ⟨gb210, 5, none⟩ = some (.int .i64 a0_5) := (blk_cell BK210.out 5).trans rfl
                                have hcz130_6 : wr.cell? ⟨gb210, 6, none⟩ = some (.int .i64 a0_6) := (blk_cell BK210.out 6).trans rfl
                                have hcz130_7 : wr.cell? ⟨gb210, 7, none⟩ = some (.int .i64 a0_7) := (blk_cell BK210.out 7).trans rfl
                                have hfz130_0 := blk_frozen BK210.out 0
                                have hfz130_1 := blk_frozen BK210.out 1
                                have hfz130_2 := blk_frozen BK210.out 2
                                have hfz130_3 := blk_frozen BK210.out 3
                                have hfz130_4 := blk_frozen BK210.out 4
                                have hfz130_5 := blk_frozen BK210.out 5
                                have hfz130_6 := blk_frozen BK210.out 6
                                have hfz130_7 := blk_frozen BK210.out 7
                                have hcz131_0 : wr.cell? ⟨gb216, 0, none⟩ = some (.int .i64 t213) := (blk_cell BK216.out 0).trans rfl
                                have hcz131_1 : wr.cell? ⟨gb216, 1, none⟩ = some (.int .i64 t214) := (blk_cell BK216.out 1).trans rfl
                                have hfz131_0 := blk_frozen BK216.out 0
                                have hfz131_1 := blk_frozen BK216.out 1
                                go_wp2_with (first | (go_at_call 14; (with_reducible refine (chargeparklaw24_isLevel.calls a0_0 a0_1 a0_2 a0_3 a0_4 a0_5 a0_6 a0_7 t213 true _ A121.out).mono ?_); rintro e w132 ⟨rfl, hb⟩; have n0_ := Aside0.mk (blk_below (g := gb210) (o := .cells #[.string a0_0, .int .i64 a0_1, .int .i64 a0_2, .int .i64 a0_3, .int .i64 a0_4, .int .i64 a0_5, .int .i64 a0_6, .int .i64 a0_7] 23 (0, 0)) (by (with_reducible repeat (first | refine blk_drewN ?_ _ | refine blk_drew ?_ | refine blk_alloc ?_ _)); exact BK210.out) hb); have n1_ := Aside0.mk (blk_below (g := gb211) (o := .cells #[.int .i64 a1_0, .int .i64 a1_1] 25 (0, 0)) (by (with_reducible repeat (first | refine blk_drewN ?_ _ | refine blk_drew ?_ | refine blk_alloc ?_ _)); exact BK211.out) hb); have n2_ := Aside0.mk (blk_below (g := gb216) (o := .cells #[.int .i64 t213, .int .i64 t214] 25 (0, 0)) (by (with_reducible repeat (first | refine blk_drewN ?_ _ | refine blk_drew ?_ | refine blk_alloc ?_ _)); exact BK216.out) hb); have n3_ := Aside0.mk (below_step (by repeat (first | (with_reducible first | exact HB.out | apply below_alloc | apply pw_below_drewN | apply below_drew1 | refine below_set ?_ GE210.out | refine below_set ?_ GE211.out | refine below_set ?_ GE216.out) | exact HB.out)) hb); clear BK210; clear BK211; clear BK216; clear HB; have BK210 := n0_; have BK211 := n1_; have BK216 := n2_; have HB := n3_; clear n0_ n1_ n2_ n3_; (try clear hb); (try clear hb2); (try clear hk); (try clear hi); have hcz133_0 : w132.cell? ⟨gb216, 0, none⟩ = some (.int .i64 t213) := (blk_cell BK216.out 0).trans rfl; have hcz133_1 : w132.cell? ⟨gb216, 1, none⟩ = some (.int .i64 t214) := (blk_cell BK216.out 1).trans rfl; have hfz133_0 := blk_frozen BK216.out 0; have hfz133_1 := blk_frozen BK216.out 1; have hcz134_0 : w132.cell? ⟨gb211, 0, none⟩ = some (.int .i64 a1_0) := (blk_cell BK211.out 0).trans rfl; have hcz134_1 : w132.cell? ⟨gb211, 1, none⟩ = some (.int .i64 a1_1) := (blk_cell BK211.out 1).trans rfl; have hfz134_0 := blk_frozen BK211.out 0; have hfz134_1 := blk_frozen BK211.out 1))
                                go_ret
                                exact ⟨by first | rfl | (simp [errW_none, errW_some] <;> rfl) | (simp only [← hji33]; first | rfl | (simp [errW_none, errW_some] <;> rfl)) | (simp [*, errW_none, errW_some] <;> rfl), by repeat (first | (with_reducible first | exact HB.out | apply below_alloc | apply pw_below_drewN | apply below_drew1 | refine below_set ?_ GE210.out | refine below_set ?_ GE211.out | refine below_set ?_ GE216.out) | exact HB.out)⟩
                              · rw [if_neg c125] at H
                                have c125b0 : (t213 == x12_3) = false := beq_eq_false_iff_ne.mpr c125
                                have c125b1 : (t213 != x12_3) = true := bne_iff_ne.mpr c125
                                obtain rfl := Option.some.inj H
                                exact absurd hr.out (by decide)
                            · rw [if_neg c124] at H
                              have c124b0 : decide (t213 ≤ x11_17) = false := decide_eq_false c124
                              clear c124
                              obtain rfl := Option.some.inj H
                              exact absurd hr.out (by decide)
                          · rw [if_neg c123] at H
                            have c123b0 : decide (t213 ≤ a2) = false := decide_eq_false c123
                            clear c123
                            obtain rfl := Option.some.inj H
                            exact absurd hr.out (by decide)
                        · replace c122 := Bool.eq_false_iff.mpr c122
                          subst c122
                          have H1 : (some false) = some r := by rw [if_neg (show ¬ (false = true) by decide)] at H; exact H
                          clear H
                          have H := H1
                          clear H1
                          obtain rfl := Option.some.inj H
                          exact absurd hr.out (by decide)
                      · rw [if_neg c120] at H
                        have c120b0 : (t215 == 0) = false := beq_eq_false_iff_ne.mpr c120
                        have c120b1 : (t215 != 0) = true := bne_iff_ne.mpr c120
                        obtain rfl := Option.some.inj H
                        exact absurd hr.out (by decide)
                    · exact absurd rfl c119
end Go.Proofs.YtagphncpdhaklaaDoor.PAll
