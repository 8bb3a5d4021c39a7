/- What the Go functions of this seat's laws return, told as Lean functions and proved by their walks; laid by a program of this session out of Lean's own print of the translation. No conditions of its own. -/
import Derived.Test.YtagphncpdhaklaaDoorPAllx0
import Derived.Test.YtagphncpdhaklaaDoorPAllx4
import Derived.Test.YtagphncpdhaklaaDoorPAllx6
import Derived.Test.YtagphncpdhaklaaDoorPAllx7
namespace Go.Proofs.YtagphncpdhaklaaDoor.PAll
open Go.RowKit Go.Proofs.YtagphncpdhaklaaDoorW.PrintWords Go.Proofs.YtagphncpdhaklaaDoorW.PrintLast Go.Proofs.YtagphncpdhaklaaDoorW.PrintMore
attribute [local go_sem] max2_int min2_int max_two min_two max_three min_three max_four min_four   -- for this text's walks alone
set_option linter.unusedVariables false
set_option linter.unusedSimpArgs false

/-! ### chargeparklaw24_RampOrder: function 7 -/
def chargeparklaw24_RampOrder.j0 : Nat → Int → Int → Bool → Bool → ByteArray → Int → Int → Int → Int → Int → Int → Int → Int → Int → Option (Bool)
  | 0, _, _, _, _, _, _, _, _, _, _, _, _, _, _ => none
  | k + 1, x2, x3, x9, x41, x238000, x238001, x238002, x238003, x238004, x238005, x238006, x238007, x239000, x239001 => if x41 = true then (some x9) else ((ramp_Next.f x238000 x238001 x238002 x238003 x238004 x238005 x238006 x238007 x239000 x239001 x2).bind fun bt240 => ((ramp_Next.f x238000 x238001 x238002 x238003 x238004 x238005 x238006 x238007 x239000 x239001 (wrap64 (x2 + x3))).bind fun bt244 => (if x238005 = 0 then (none) else ((ramp_Next.f x238000 x238001 x238002 x238003 x238004 x238005 x238006 x238007 x239000 x239001 (mn 80 (wrap64 (x239000 + (Int.tmod x3 x238005))))).bind fun bt248 => (if x239000 = 0 then (if x9 = true then (if bt240.2.2 = 0 then (if bt244.2.2 = 0 then (if bt248.2.2 = 0 then (if bt240.1 ≤ bt244.1 then (some true) else (some false)) else (some false)) else (some false)) else (some false)) else (some false)) else (if bt248.1 = x239000 then (if x9 = true then (if bt240.2.2 = 0 then (if bt244.2.2 = 0 then (if bt248.2.2 = 0 then (if bt240.1 ≤ bt244.1 then (some (bt248.2.1 == (mn 1000000 (wrap64 (x239001 + 1))))) else (some false)) else (some false)) else (some false)) else (some false)) else (some false)) else (if x9 = true then (if bt240.2.2 = 0 then (if bt244.2.2 = 0 then (if bt248.2.2 = 0 then (if bt240.1 ≤ bt244.1 then (some false) else (some false)) else (some false)) else (some false)) else (some false)) else (some false))))))))
def chargeparklaw24_RampOrder.f (k : Nat) (a0_0 : ByteArray) (a0_1 : Int) (a0_2 : Int) (a0_3 : Int) (a0_4 : Int) (a0_5 : Int) (a0_6 : Int) (a0_7 : Int) (a1_0 : Int) (a1_1 : Int) (a2 : Int) (a3 : Int) : Option (Bool) := (chargeparklaw24_head_c.f).bind fun _ => ((chargeparkref24_Valid.f k a0_0 a0_1 a0_2 a0_3 a0_4 a0_5 a0_6 a0_7 a1_0 a1_1).bind fun t239 => (if t239 = true then (if a2 < 0 then (chargeparklaw24_RampOrder.j0 k a2 a3 true true a0_0 a0_1 a0_2 a0_3 a0_4 a0_5 a0_6 a0_7 a1_0 a1_1) else (if a3 < 0 then (chargeparklaw24_RampOrder.j0 k a2 a3 true true a0_0 a0_1 a0_2 a0_3 a0_4 a0_5 a0_6 a0_7 a1_0 a1_1) else (if a2 > 80 then (chargeparklaw24_RampOrder.j0 k a2 a3 true true a0_0 a0_1 a0_2 a0_3 a0_4 a0_5 a0_6 a0_7 a1_0 a1_1) else (chargeparklaw24_RampOrder.j0 k a2 a3 true (decide (a3 > (wrap64 (80 - a2)))) a0_0 a0_1 a0_2 a0_3 a0_4 a0_5 a0_6 a0_7 a1_0 a1_1)))) else (chargeparklaw24_RampOrder.j0 k a2 a3 true true a0_0 a0_1 a0_2 a0_3 a0_4 a0_5 a0_6 a0_7 a1_0 a1_1)))
theorem chargeparklaw24_RampOrder.mono_l : ∀ k, (∀ y0 y1 y2 y3 y4 y5 y6 y7 y8 y9 y10 y11 y12 y13, LeO (chargeparklaw24_RampOrder.j0 k y0 y1 y2 y3 y4 y5 y6 y7 y8 y9 y10 y11 y12 y13) (chargeparklaw24_RampOrder.j0 (k + 1) y0 y1 y2 y3 y4 y5 y6 y7 y8 y9 y10 y11 y12 y13))
  | 0 => fun _ _ _ _ _ _ _ _ _ _ _ _ _ _ r h => by simp [chargeparklaw24_RampOrder.j0] at h
  | k + 1 => by
    have ih0 := chargeparklaw24_RampOrder.mono_l k
    · intro y0 y1 y2 y3 y4 y5 y6 y7 y8 y9 y10 y11 y12 y13
      unfold chargeparklaw24_RampOrder.j0
      repeat' first
      | (with_reducible exact ih0 _ _ _ _ _ _ _ _ _ _ _ _ _ _)
      | (with_reducible exact chargeparkref24_Valid.mono _ _ _ _ _ _ _ _ _ _ _)
      | (with_reducible exact LeO.refl _)
      | (with_reducible exact LeO.none _)
      | (with_reducible refine LeO.ite ?_ ?_)
      | (with_reducible refine LeO.bind ?_ (fun _ => ?_))
      | exact ih0 _ _ _ _ _ _ _ _ _ _ _ _ _ _
      | exact chargeparkref24_Valid.mono _ _ _ _ _ _ _ _ _ _ _
      | exact LeO.none _
      | refine LeO.ite ?_ ?_
      | refine LeO.bind ?_ (fun _ => ?_)
theorem chargeparklaw24_RampOrder.mono : ∀ a0 a1 a2 a3 a4 a5 a6 a7 a8 a9 a10 a11 k, LeO (chargeparklaw24_RampOrder.f k a0 a1 a2 a3 a4 a5 a6 a7 a8 a9 a10 a11) (chargeparklaw24_RampOrder.f (k + 1) a0 a1 a2 a3 a4 a5 a6 a7 a8 a9 a10 a11) := by
  intro a0 a1 a2 a3 a4 a5 a6 a7 a8 a9 a10 a11 k
  have ih0 := chargeparklaw24_RampOrder.mono_l k
  unfold chargeparklaw24_RampOrder.f
  repeat' first
      | (with_reducible exact ih0 _ _ _ _ _ _ _ _ _ _ _ _ _ _)
      | (with_reducible exact chargeparkref24_Valid.mono _ _ _ _ _ _ _ _ _ _ _)
      | (with_reducible exact LeO.refl _)
      | (with_reducible exact LeO.none _)
      | (with_reducible refine LeO.ite ?_ ?_)
      | (with_reducible refine LeO.bind ?_ (fun _ => ?_))
      | exact ih0 _ _ _ _ _ _ _ _ _ _ _ _ _ _
      | exact chargeparkref24_Valid.mono _ _ _ _ _ _ _ _ _ _ _
      | exact LeO.none _
      | refine LeO.ite ?_ ?_
      | refine LeO.bind ?_ (fun _ => ?_)
def chargeparklaw24_RampOrder.T7 : Bool × List (List Nat × List Nat) := (true, [([], []), ([], []), ([], []), ([2], [2]), ([], []), ([], []), ([5], [5]), ([4, 6], [4, 6]), ([3, 7], [3, 7]), ([8], [8]), ([0, 1, 9], [0, 1, 9]), ([10], [10]), ([11], [11]), ([11], [11]), ([], []), ([14, 12, 10, 0, 1, 2, 3, 4, 5, 6, 7, 8, 9, 10, 11, 12, 14], [12, 14]), ([13, 15, 0, 1, 2, 3, 4, 5, 6, 7, 8, 9, 10, 11, 12, 13, 14, 15], [13])])
def chargeparklaw24_RampOrder.B7 : List Nat := [0, 0, 0, 4, 0, 0, 32, 112, 252, 508, 1023, 2047, 4095, 4095, 0, 24575, 65535]
theorem chargeparklaw24_RampOrder.tab7 : rtab .any (opsOf Tryd.f7 7) = chargeparklaw24_RampOrder.T7 := by kernel_rfl
theorem chargeparklaw24_RampOrder.bits7 : waitsOk chargeparklaw24_RampOrder.T7.2 chargeparklaw24_RampOrder.B7 = true := by kernel_rfl
set_option maxHeartbeats 8000000 in
set_option maxRecDepth 100000 in
theorem chargeparklaw24_RampOrder.calls (k : Nat) (a0_0 : ByteArray) (a0_1 : Int) (a0_2 : Int) (a0_3 : Int) (a0_4 : Int) (a0_5 : Int) (a0_6 : Int) (a0_7 : Int) (a1_0 : Int) (a1_1 : Int) (a2 : Int) (a3 : Int) (r : Bool) (w : World) (hG : Hand.G w) (h : chargeparklaw24_RampOrder.f k a0_0 a0_1 a0_2 a0_3 a0_4 a0_5 a0_6 a0_7 a1_0 a1_1 a2 a3 = some r) (hr : Aside0 (r = true)) :
    Calls Tryd.prog 7 #[.agg #[.string a0_0, .int .i64 a0_1, .int .i64 a0_2, .int .i64 a0_3, .int .i64 a0_4, .int .i64 a0_5, .int .i64 a0_6, .int .i64 a0_7], .agg #[.int .i64 a1_0, .int .i64 a1_1], .int .i64 a2, .int .i64 a3] w fun e w' => e = .returned (.bool r) ∧ Below w.heap.size w w' := by
  have hu23 := Tryd.underlying23
  have hu25 := Tryd.underlying25
  have HB := Aside0.mk (Below.refl w.heap.size w)
  have H : ((chargeparklaw24_head_c.f).bind fun _ => ((chargeparkref24_Valid.f k a0_0 a0_1 a0_2 a0_3 a0_4 a0_5 a0_6 a0_7 a1_0 a1_1).bind fun t239 => (if t239 = true then (if a2 < 0 then (chargeparklaw24_RampOrder.j0 k a2 a3 true true a0_0 a0_1 a0_2 a0_3 a0_4 a0_5 a0_6 a0_7 a1_0 a1_1) else (if a3 < 0 then (chargeparklaw24_RampOrder.j0 k a2 a3 true true a0_0 a0_1 a0_2 a0_3 a0_4 a0_5 a0_6 a0_7 a1_0 a1_1) else (if a2 > 80 then (chargeparklaw24_RampOrder.j0 k a2 a3 true true a0_0 a0_1 a0_2 a0_3 a0_4 a0_5 a0_6 a0_7 a1_0 a1_1) else (chargeparklaw24_RampOrder.j0 k a2 a3 true (decide (a3 > (wrap64 (80 - a2)))) a0_0 a0_1 a0_2 a0_3 a0_4 a0_5 a0_6 a0_7 a1_0 a1_1)))) else (chargeparklaw24_RampOrder.j0 k a2 a3 true true a0_0 a0_1 a0_2 a0_3 a0_4 a0_5 a0_6 a0_7 a1_0 a1_1)))) = some r := h
  clear h
  replace H := Option.bind_eq_some_iff.mp H
  obtain ⟨tc_, A50, H⟩ := H
  obtain rfl : true = tc_ := Option.some.inj ((show chargeparklaw24_head_c.f = some true by kernel_rfl).symm.trans A50)
  replace H : ((chargeparkref24_Valid.f k a0_0 a0_1 a0_2 a0_3 a0_4 a0_5 a0_6 a0_7 a1_0 a1_1).bind fun t239 => (if t239 = true then (if a2 < 0 then (chargeparklaw24_RampOrder.j0 k a2 a3 true true a0_0 a0_1 a0_2 a0_3 a0_4 a0_5 a0_6 a0_7 a1_0 a1_1) else (if a3 < 0 then (chargeparklaw24_RampOrder.j0 k a2 a3 true true a0_0 a0_1 a0_2 a0_3 a0_4 a0_5 a0_6 a0_7 a1_0 a1_1) else (if a2 > 80 then (chargeparklaw24_RampOrder.j0 k a2 a3 true true a0_0 a0_1 a0_2 a0_3 a0_4 a0_5 a0_6 a0_7 a1_0 a1_1) else (chargeparklaw24_RampOrder.j0 k a2 a3 true (decide (a3 > (wrap64 (80 - a2)))) a0_0 a0_1 a0_2 a0_3 a0_4 a0_5 a0_6 a0_7 a1_0 a1_1)))) else (chargeparklaw24_RampOrder.j0 k a2 a3 true true a0_0 a0_1 a0_2 a0_3 a0_4 a0_5 a0_6 a0_7 a1_0 a1_1))) = some r := H
  have A5 := Aside0.mk A50
  clear A50
  replace H := Option.bind_eq_some_iff.mp H
  obtain ⟨t239, A60, H⟩ := H
  replace H : (if t239 = true then (if a2 < 0 then (chargeparklaw24_RampOrder.j0 k a2 a3 true true a0_0 a0_1 a0_2 a0_3 a0_4 a0_5 a0_6 a0_7 a1_0 a1_1) else (if a3 < 0 then (chargeparklaw24_RampOrder.j0 k a2 a3 true true a0_0 a0_1 a0_2 a0_3 a0_4 a0_5 a0_6 a0_7 a1_0 a1_1) else (if a2 > 80 then (chargeparklaw24_RampOrder.j0 k a2 a3 true true a0_0 a0_1 a0_2 a0_3 a0_4 a0_5 a0_6 a0_7 a1_0 a1_1) else (chargeparklaw24_RampOrder.j0 k a2 a3 true (decide (a3 > (wrap64 (80 - a2)))) a0_0 a0_1 a0_2 a0_3 a0_4 a0_5 a0_6 a0_7 a1_0 a1_1)))) else (chargeparklaw24_RampOrder.j0 k a2 a3 true true a0_0 a0_1 a0_2 a0_3 a0_4 a0_5 a0_6 a0_7 a1_0 a1_1)) = some r := H
  have A6 := Aside0.mk A60
  clear A60
  have HC7 := Aside0.mk H
  clear H
  go_enter Tryd.func7, Tryd.ntmps7
  go_upto_region 3 with (first | ((with_reducible refine gate_dst (N := 4) rfl ?_); (try (refine gate_guard (by rfl) ?_; dsimp only)); refine box_event ?hg (N := 4) ?hd (cs := #[.string a0_0, .int .i64 a0_1, .int .i64 a0_2, .int .i64 a0_3, .int .i64 a0_4, .int .i64 a0_5, .int .i64 a0_6, .int .i64 a0_7]) (t := 23) ?hr ?_; (case hd => rfl); (case hg => rfl); (case hr => first | (go_simp; done) | (go_simp; rfl)); intro gb237 hg w8 hbox hb; have n0_ := Aside0.mk (below_step (by repeat (first | (with_reducible first | exact HB.out | apply below_alloc | apply pw_below_drewN | apply below_drew1) | exact HB.out | (refine Below.setCell ?_ (Aside0.out (by assumption)) _))) hb); have n1_ := Aside0.mk (hbox); have n2_ := Aside0.mk ((by rw [hg]; exact (below_size (by repeat (first | (with_reducible first | exact HB.out | apply below_alloc | apply pw_below_drewN | apply below_drew1) | exact HB.out | (refine Below.setCell ?_ (Aside0.out (by assumption)) _)))) : w.heap.size ≤ gb237)); have n3_ := Aside0.mk ((by rw [hg]; exact (below_size (by repeat (first | (with_reducible first | exact HB.out | apply below_alloc | apply pw_below_drewN | apply below_drew1) | exact HB.out | (refine Below.setCell ?_ (Aside0.out (by assumption)) _)))) : w.heap.size ≤ gb237)); clear HB; have HB := n0_; have BK237 := n1_; have GW237 := n2_; have GE237 := n3_; clear n0_ n1_ n2_ n3_; clear hb hbox hg) | ((with_reducible refine gate_dst (N := 5) rfl ?_); (try (refine gate_guard (by rfl) ?_; dsimp only)); refine box_event ?hg (N := 5) ?hd (cs := #[.int .i64 a1_0, .int .i64 a1_1]) (t := 25) ?hr ?_; (case hd => rfl); (case hg => rfl); (case hr => first | (go_simp; done) | (go_simp; rfl)); intro gb238 hg w9 hbox hb; have n0_ := Aside0.mk (blk_below (g := gb237) (o := .cells #[.string a0_0, .int .i64 a0_1, .int .i64 a0_2, .int .i64 a0_3, .int .i64 a0_4, .int .i64 a0_5, .int .i64 a0_6, .int .i64 a0_7] 23 (0, 0)) (by (with_reducible repeat (first | refine blk_drewN ?_ _ | refine blk_drew ?_ | refine blk_alloc ?_ _)); exact BK237.out) hb); have n1_ := Aside0.mk (below_step (by repeat (first | (with_reducible first | exact HB.out | apply below_alloc | apply pw_below_drewN | apply below_drew1 | refine below_set ?_ GE237.out) | exact HB.out)) hb); have n2_ := Aside0.mk (hbox); have n3_ := Aside0.mk ((by rw [hg]; exact (below_size (by repeat (first | (with_reducible first | exact HB.out | apply below_alloc | apply pw_below_drewN | apply below_drew1 | refine below_set ?_ GE237.out) | exact HB.out))) : w.heap.size ≤ gb238)); have n4_ := Aside0.mk ((by rw [hg]; exact (below_size (by repeat (first | (with_reducible first | exact HB.out | apply below_alloc | apply pw_below_drewN | apply below_drew1 | refine below_set ?_ GE237.out) | exact HB.out))) : w.heap.size ≤ gb238)); have n5_ := Aside0.mk ((by rw [hg]; exact Nat.ne_of_lt (blk_lt (g := gb237) (o := .cells #[.string a0_0, .int .i64 a0_1, .int .i64 a0_2, .int .i64 a0_3, .int .i64 a0_4, .int .i64 a0_5, .int .i64 a0_6, .int .i64 a0_7] 23 (0, 0)) (by (with_reducible repeat (first | refine blk_drewN ?_ _ | refine blk_drew ?_ | refine blk_alloc ?_ _)); exact BK237.out)) : gb237 ≠ gb238)); have n6_ := Aside0.mk ((by rw [hg]; exact Nat.ne_of_gt (blk_lt (g := gb237) (o := .cells #[.string a0_0, .int .i64 a0_1, .int .i64 a0_2, .int .i64 a0_3, .int .i64 a0_4, .int .i64 a0_5, .int .i64 a0_6, .int .i64 a0_7] 23 (0, 0)) (by (with_reducible repeat (first | refine blk_drewN ?_ _ | refine blk_drew ?_ | refine blk_alloc ?_ _)); exact BK237.out)) : gb238 ≠ gb237)); clear BK237; clear HB; have BK237 := n0_; have HB := n1_; have BK238 := n2_; have GW238 := n3_; have GE238 := n4_; have NB237_238 := n5_; have NB238_237 := n6_; clear n0_ n1_ n2_ n3_ n4_ n5_ n6_; clear hb hbox hg) | ((with_reducible refine gate_callee (f := 9) rfl ?_); refine goesL_ (some 18) rfl rfl Tryd.func9 (by kernel_rfl) rfl #[] rfl (by (try simp only [List.map_toArray, List.map_cons, List.map_nil]); first | done | rfl | (simp only [List.length_drop, List.length_take]; rfl)) ?_; (with_reducible refine (chargeparklaw24_head_c.calls  true _ (hG.below (by repeat (first | (with_reducible first | exact HB.out | apply below_alloc | apply pw_below_drewN | apply below_drew1) | exact HB.out | (refine Below.setCell ?_ (Aside0.out (by assumption)) _)))) A5.out).mono ?_); rintro e w10 ⟨rfl, hb⟩; refine ⟨_, rfl, ?_⟩; have n0_ := Aside0.mk (blk_below (g := gb237) (o := .cells #[.string a0_0, .int .i64 a0_1, .int .i64 a0_2, .int .i64 a0_3, .int .i64 a0_4, .int .i64 a0_5, .int .i64 a0_6, .int .i64 a0_7] 23 (0, 0)) (by (with_reducible repeat (first | refine blk_drewN ?_ _ | refine blk_drew ?_ | refine blk_alloc ?_ _)); exact BK237.out) hb); have n1_ := Aside0.mk (blk_below (g := gb238) (o := .cells #[.int .i64 a1_0, .int .i64 a1_1] 25 (0, 0)) (by (with_reducible repeat (first | refine blk_drewN ?_ _ | refine blk_drew ?_ | refine blk_alloc ?_ _)); exact BK238.out) hb); have n2_ := Aside0.mk (below_step (by repeat (first | (with_reducible first | exact HB.out | apply below_alloc | apply pw_below_drewN | apply below_drew1 | refine below_set ?_ GE237.out | refine below_set ?_ GE238.out) | exact HB.out)) hb); clear BK237; clear BK238; clear HB; have BK237 := n0_; have BK238 := n1_; have HB := n2_; clear n0_ n1_ n2_; (try clear hb); (try clear hb2); (try clear hk); (try clear hi); have hnb11 := NB237_238.out; have hnc11 := NB238_237.out; have hcz12_0 : w10.cell? ⟨gb237, 0, none⟩ = some (.string a0_0) := (blk_cell BK237.out 0).trans rfl; have hcz12_1 : w10.cell? ⟨gb237, 1, none⟩ = some (.int .i64 a0_1) := (blk_cell BK237.out 1).trans rfl; have hcz12_2 : w10.cell? ⟨gb237, 2, none⟩ = some (.int .i64 a0_2) := (blk_cell BK237.out 2).trans rfl; have hcz12_3 : w10.cell? ⟨gb237, 3, none⟩ = some (.int .i64 a0_3) := (blk_cell BK237.out 3).trans rfl; have hcz12_4 : w10.cell? ⟨gb237, 4, none⟩ = some (.int .i64 a0_4) := (blk_cell BK237.out 4).trans rfl; have hcz12_5 : w10.cell? ⟨gb237, 5, none⟩ = some (.int .i64 a0_5) := (blk_cell BK237.out 5).trans rfl; have hcz12_6 : w10.cell? ⟨gb237, 6, none⟩ = some (.int .i64 a0_6) := (blk_cell BK237.out 6).trans rfl; have hcz12_7 : w10.cell? ⟨gb237, 7, none⟩ = some (.int .i64 a0_7) := (blk_cell BK237.out 7).trans rfl; have hfz12_0 := blk_frozen BK237.out 0; have hfz12_1 := blk_frozen BK237.out 1; have hfz12_2 := blk_frozen BK237.out 2; have hfz12_3 := blk_frozen BK237.out 3; have hfz12_4 := blk_frozen BK237.out 4; have hfz12_5 := blk_frozen BK237.out 5; have hfz12_6 := blk_frozen BK237.out 6; have hfz12_7 := blk_frozen BK237.out 7; have hcz13_0 : w10.cell? ⟨gb238, 0, none⟩ = some (.int .i64 a1_0) := (blk_cell BK238.out 0).trans rfl; have hcz13_1 : w10.cell? ⟨gb238, 1, none⟩ = some (.int .i64 a1_1) := (blk_cell BK238.out 1).trans rfl; have hfz13_0 := blk_frozen BK238.out 0; have hfz13_1 := blk_frozen BK238.out 1) | ((with_reducible refine gate_callee (f := 13) rfl ?_); refine goesL_ (some 21) rfl rfl Tryd.func13 (by kernel_rfl) rfl #[.agg #[.string a0_0, .int .i64 a0_1, .int .i64 a0_2, .int .i64 a0_3, .int .i64 a0_4, .int .i64 a0_5, .int .i64 a0_6, .int .i64 a0_7], .agg #[.int .i64 a1_0, .int .i64 a1_1]] rfl (by (try simp only [List.map_toArray, List.map_cons, List.map_nil]); first | done | rfl | (simp only [List.length_drop, List.length_take]; rfl)) ?_; (with_reducible refine (chargeparkref24_Valid.calls k a0_0 a0_1 a0_2 a0_3 a0_4 a0_5 a0_6 a0_7 a1_0 a1_1 t239 _ A6.out).mono ?_); rintro e w14 ⟨rfl, hb⟩; refine ⟨_, rfl, ?_⟩; have n0_ := Aside0.mk (blk_below (g := gb237) (o := .cells #[.string a0_0, .int .i64 a0_1, .int .i64 a0_2, .int .i64 a0_3, .int .i64 a0_4, .int .i64 a0_5, .int .i64 a0_6, .int .i64 a0_7] 23 (0, 0)) (by (with_reducible repeat (first | refine blk_drewN ?_ _ | refine blk_drew ?_ | refine blk_alloc ?_ _)); exact BK237.out) hb); have n1_ := Aside0.mk (blk_below (g := gb238) (o := .cells #[.int .i64 a1_0, .int .i64 a1_1] 25 (0, 0)) (by (with_reducible repeat (first | refine blk_drewN ?_ _ | refine blk_drew ?_ | refine blk_alloc ?_ _)); exact BK238.out) hb); have n2_ := Aside0.mk (below_step (by repeat (first | (with_reducible first | exact HB.out | apply below_alloc | apply pw_below_drewN | apply below_drew1 | refine below_set ?_ GE237.out | refine below_set ?_ GE238.out) | exact HB.out)) hb); clear BK237; clear BK238; clear HB; have BK237 := n0_; have BK238 := n1_; have HB := n2_; clear n0_ n1_ n2_; (try clear hb); (try clear hb2); (try clear hk); (try clear hi)))
  (try simp only [Act.put, List.setIfInBounds_toArray, List.set_cons_zero, List.set_cons_succ])
  go_cut [41] (fun v41 wc => ∃ (kq : Nat) (x41_6 : Bool), v41 = .bool x41_6 ∧ Aside0 (chargeparklaw24_RampOrder.j0 kq a2 a3 true x41_6 a0_0 a0_1 a0_2 a0_3 a0_4 a0_5 a0_6 a0_7 a1_0 a1_1 = some r) ∧ Aside0 (kq ≤ k) ∧ Aside0 (wc.heap[gb237]? = some (.cells #[.string a0_0, .int .i64 a0_1, .int .i64 a0_2, .int .i64 a0_3, .int .i64 a0_4, .int .i64 a0_5, .int .i64 a0_6, .int .i64 a0_7] 23 (0, 0))) ∧ Aside0 (wc.heap[gb238]? = some (.cells #[.int .i64 a1_0, .int .i64 a1_1] 25 (0, 0))) ∧ Aside0 (Below w.heap.size w wc))
  case first =>
    have H := HC7.out
    clear HC7
    by_cases c15 : t239 = true
    · subst c15
      have H1 : (if a2 < 0 then (chargeparklaw24_RampOrder.j0 k a2 a3 true true a0_0 a0_1 a0_2 a0_3 a0_4 a0_5 a0_6 a0_7 a1_0 a1_1) else (if a3 < 0 then (chargeparklaw24_RampOrder.j0 k a2 a3 true true a0_0 a0_1 a0_2 a0_3 a0_4 a0_5 a0_6 a0_7 a1_0 a1_1) else (if a2 > 80 then (chargeparklaw24_RampOrder.j0 k a2 a3 true true a0_0 a0_1 a0_2 a0_3 a0_4 a0_5 a0_6 a0_7 a1_0 a1_1) else (chargeparklaw24_RampOrder.j0 k a2 a3 true (decide (a3 > (wrap64 (80 - a2)))) a0_0 a0_1 a0_2 a0_3 a0_4 a0_5 a0_6 a0_7 a1_0 a1_1)))) = some r := by rw [if_pos rfl] at H; exact H
      clear H
      have H := H1
      clear H1
      by_cases c16 : a2 < 0
      · rw [if_pos c16] at H
        have c16b0 : decide (a2 < 0) = true := decide_eq_true c16
        clear c16
        (first | rw [c16b0] | (simp only [i64_w, i32_w]; rw [c16b0]) | skip)
        have H' := Aside0.mk H
        clear H
        go_wp2
        go_meet
        case rel => exact ⟨_, (true), (by first | rfl | (simp; done) | (simp [*]; done)), H', ⟨by first | omega | exact Nat.le_refl _⟩, ⟨by (with_reducible repeat (first | refine blk_drewN ?_ _ | refine blk_drew ?_ | refine blk_alloc ?_ _)); exact BK237.out⟩, ⟨by (with_reducible repeat (first | refine blk_drewN ?_ _ | refine blk_drew ?_ | refine blk_alloc ?_ _)); exact BK238.out⟩, ⟨by repeat (first | (with_reducible first | exact HB.out | apply below_alloc | apply pw_below_drewN | apply below_drew1 | refine below_set ?_ GE237.out | refine below_set ?_ GE238.out) | exact HB.out)⟩⟩
      · rw [if_neg c16] at H
        have c16b0 : decide (a2 < 0) = false := decide_eq_false c16
        clear c16
        (first | rw [c16b0] | (simp only [i64_w, i32_w]; rw [c16b0]) | skip)
        by_cases c17 : a3 < 0
        · rw [if_pos c17] at H
          have c17b0 : decide (a3 < 0) = true := decide_eq_true c17
          clear c17
          have H' := Aside0.mk H
          clear H
          go_wp2
          go_meet
          case rel => exact ⟨_, (true), (by first | rfl | (simp; done) | (simp [*]; done)), H', ⟨by first | omega | exact Nat.le_refl _⟩, ⟨by (with_reducible repeat (first | refine blk_drewN ?_ _ | refine blk_drew ?_ | refine blk_alloc ?_ _)); exact BK237.out⟩, ⟨by (with_reducible repeat (first | refine blk_drewN ?_ _ | refine blk_drew ?_ | refine blk_alloc ?_ _)); exact BK238.out⟩, ⟨by repeat (first | (with_reducible first | exact HB.out | apply below_alloc | apply pw_below_drewN | apply below_drew1 | refine below_set ?_ GE237.out | refine below_set ?_ GE238.out) | exact HB.out)⟩⟩
        · rw [if_neg c17] at H
          have c17b0 : decide (a3 < 0) = false := decide_eq_false c17
          clear c17
          by_cases c18 : a2 > 80
          · rw [if_pos c18] at H
            have c18b0 : decide (80 < a2) = true := decide_eq_true c18
            clear c18
            have H' := Aside0.mk H
            clear H
            go_wp2
            go_meet
            case rel => exact ⟨_, (true), (by first | rfl | (simp; done) | (simp [*]; done)), H', ⟨by first | omega | exact Nat.le_refl _⟩, ⟨by (with_reducible repeat (first | refine blk_drewN ?_ _ | refine blk_drew ?_ | refine blk_alloc ?_ _)); exact BK237.out⟩, ⟨by (with_reducible repeat (first | refine blk_drewN ?_ _ | refine blk_drew ?_ | refine blk_alloc ?_ _)); exact BK238.out⟩, ⟨by repeat (first | (with_reducible first | exact HB.out | apply below_alloc | apply pw_below_drewN | apply below_drew1 | refine below_set ?_ GE237.out | refine below_set ?_ GE238.out) | exact HB.out)⟩⟩
          · rw [if_neg c18] at H
            have c18b0 : decide (80 < a2) = false := decide_eq_false c18
            clear c18
            have H' := Aside0.mk H
            clear H
            go_wp2
            go_meet
            case rel => exact ⟨_, (decide (a3 > (wrap64 (80 - a2)))), (by first | rfl | (simp; done) | (simp [*]; done)), H', ⟨by first | omega | exact Nat.le_refl _⟩, ⟨by (with_reducible repeat (first | refine blk_drewN ?_ _ | refine blk_drew ?_ | refine blk_alloc ?_ _)); exact BK237.out⟩, ⟨by (with_reducible repeat (first | refine blk_drewN ?_ _ | refine blk_drew ?_ | refine blk_alloc ?_ _)); exact BK238.out⟩, ⟨by repeat (first | (with_reducible first | exact HB.out | apply below_alloc | apply pw_below_drewN | apply below_drew1 | refine below_set ?_ GE237.out | refine below_set ?_ GE238.out) | exact HB.out)⟩⟩
    · replace c15 := Bool.eq_false_iff.mpr c15
      subst c15
      have H1 : (chargeparklaw24_RampOrder.j0 k a2 a3 true true a0_0 a0_1 a0_2 a0_3 a0_4 a0_5 a0_6 a0_7 a1_0 a1_1) = some r := by rw [if_neg (show ¬ (false = true) by decide)] at H; exact H
      clear H
      have H := H1
      clear H1
      have H' := Aside0.mk H
      clear H
      go_wp2
      go_meet
      case rel => exact ⟨_, (true), (by first | rfl | (simp; done) | (simp [*]; done)), H', ⟨by first | omega | exact Nat.le_refl _⟩, ⟨by (with_reducible repeat (first | refine blk_drewN ?_ _ | refine blk_drew ?_ | refine blk_alloc ?_ _)); exact BK237.out⟩, ⟨by (with_reducible repeat (first | refine blk_drewN ?_ _ | refine blk_drew ?_ | refine blk_alloc ?_ _)); exact BK238.out⟩, ⟨by repeat (first | (with_reducible first | exact HB.out | apply below_alloc | apply pw_below_drewN | apply below_drew1 | refine below_set ?_ GE237.out | refine below_set ?_ GE238.out) | exact HB.out)⟩⟩
  case rest =>
    clear HC7
    try clear c1
    try clear p2
    try clear p6
    try clear c7
    try clear c9
    try clear c11
    try clear c13
    try clear c15
    try clear c16
    try clear c16b0
    try clear c17
    try clear c17b0
    try clear c18
    try clear c18b0
    try clear hcz12_0
    try clear hcz12_1
    try clear hcz12_2
    try clear hcz12_3
    try clear hcz12_4
    try clear hcz12_5
    try clear hcz12_6
    try clear hcz12_7
    try clear hcz13_0
    try clear hcz13_1
    try clear hfz12_0
    try clear hfz12_1
    try clear hfz12_2
    try clear hfz12_3
    try clear hfz12_4
    try clear hfz12_5
    try clear hfz12_6
    try clear hfz12_7
    try clear hfz13_0
    try clear hfz13_1
    obtain ⟨kq, x41_6, rfl, HA, HJ6, BK237, BK238, HB⟩ := hcut
    cases kq with
    | zero => exact absurd HA.out (by simp [chargeparklaw24_RampOrder.j0])
    | succ kj6 =>
      have H := HA.out
      clear HA
      simp only [chargeparklaw24_RampOrder.j0] at H
      by_cases c19 : x41_6 = true
      · subst c19
        have H1 : (some true) = some r := by rw [if_pos rfl] at H; exact H
        clear H
        have H := H1
        clear H1
        obtain rfl := Option.some.inj H
        simp only [Option.some.injEq, Prod.mk.injEq] at H
        obtain ⟨rfl⟩ := H
        go_wp2
        go_ret
        exact ⟨by first | rfl | (simp [errW_none, errW_some] <;> rfl) | (simp [*, errW_none, errW_some] <;> rfl), by repeat (first | (with_reducible first | exact HB.out | apply below_alloc | apply pw_below_drewN | apply below_drew1 | refine below_set ?_ GE237.out | refine below_set ?_ GE238.out) | exact HB.out)⟩
      · replace c19 := Bool.eq_false_iff.mpr c19
        subst c19
        have H1 : ((ramp_Next.f a0_0 a0_1 a0_2 a0_3 a0_4 a0_5 a0_6 a0_7 a1_0 a1_1 a2).bind fun bt240 => ((ramp_Next.f a0_0 a0_1 a0_2 a0_3 a0_4 a0_5 a0_6 a0_7 a1_0 a1_1 (wrap64 (a2 + a3))).bind fun bt244 => (if a0_5 = 0 then (none) else ((ramp_Next.f a0_0 a0_1 a0_2 a0_3 a0_4 a0_5 a0_6 a0_7 a1_0 a1_1 (mn 80 (wrap64 (a1_0 + (Int.tmod a3 a0_5))))).bind fun bt248 => (if a1_0 = 0 then (if true = true then (if bt240.2.2 = 0 then (if bt244.2.2 = 0 then (if bt248.2.2 = 0 then (if bt240.1 ≤ bt244.1 then (some true) else (some false)) else (some false)) else (some false)) else (some false)) else (some false)) else (if bt248.1 = a1_0 then (if true = true then (if bt240.2.2 = 0 then (if bt244.2.2 = 0 then (if bt248.2.2 = 0 then (if bt240.1 ≤ bt244.1 then (some (bt248.2.1 == (mn 1000000 (wrap64 (a1_1 + 1))))) else (some false)) else (some false)) else (some false)) else (some false)) else (some false)) else (if true = true then (if bt240.2.2 = 0 then (if bt244.2.2 = 0 then (if bt248.2.2 = 0 then (if bt240.1 ≤ bt244.1 then (some false) else (some false)) else (some false)) else (some false)) else (some false)) else (some false)))))))) = some r := by rw [if_neg (show ¬ (false = true) by decide)] at H; exact H
        clear H
        have H := H1
        clear H1
        replace H := Option.bind_eq_some_iff.mp H
        obtain ⟨⟨t240, t241, t242⟩, A200, H⟩ := H
        replace H : ((ramp_Next.f a0_0 a0_1 a0_2 a0_3 a0_4 a0_5 a0_6 a0_7 a1_0 a1_1 (wrap64 (a2 + a3))).bind fun bt244 => (if a0_5 = 0 then (none) else ((ramp_Next.f a0_0 a0_1 a0_2 a0_3 a0_4 a0_5 a0_6 a0_7 a1_0 a1_1 (mn 80 (wrap64 (a1_0 + (Int.tmod a3 a0_5))))).bind fun bt248 => (if a1_0 = 0 then (if true = true then (if t242 = 0 then (if bt244.2.2 = 0 then (if bt248.2.2 = 0 then (if t240 ≤ bt244.1 then (some true) else (some false)) else (some false)) else (some false)) else (some false)) else (some false)) else (if bt248.1 = a1_0 then (if true = true then (if t242 = 0 then (if bt244.2.2 = 0 then (if bt248.2.2 = 0 then (if t240 ≤ bt244.1 then (some (bt248.2.1 == (mn 1000000 (wrap64 (a1_1 + 1))))) else (some false)) else (some false)) else (some false)) else (some false)) else (some false)) else (if true = true then (if t242 = 0 then (if bt244.2.2 = 0 then (if bt248.2.2 = 0 then (if t240 ≤ bt244.1 then (some false) else (some false)) else (some false)) else (some false)) else (some false)) else (some false))))))) = some r := H
        have A20 := Aside0.mk A200
        clear A200
        replace H := Option.bind_eq_some_iff.mp H
        obtain ⟨⟨t244, t245, t246⟩, A210, H⟩ := H
        replace H : (if a0_5 = 0 then (none) else ((ramp_Next.f a0_0 a0_1 a0_2 a0_3 a0_4 a0_5 a0_6 a0_7 a1_0 a1_1 (mn 80 (wrap64 (a1_0 + (Int.tmod a3 a0_5))))).bind fun bt248 => (if a1_0 = 0 then (if true = true then (if t242 = 0 then (if t246 = 0 then (if bt248.2.2 = 0 then (if t240 ≤ t244 then (some true) else (some false)) else (some false)) else (some false)) else (some false)) else (some false)) else (if bt248.1 = a1_0 then (if true = true then (if t242 = 0 then (if t246 = 0 then (if bt248.2.2 = 0 then (if t240 ≤ t244 then (some (bt248.2.1 == (mn 1000000 (wrap64 (a1_1 + 1))))) else (some false)) else (some false)) else (some false)) else (some false)) else (some false)) else (if true = true then (if t242 = 0 then (if t246 = 0 then (if bt248.2.2 = 0 then (if t240 ≤ t244 then (some false) else (some false)) else (some false)) else (some false)) else (some false)) else (some false)))))) = some r := H
        have A21 := Aside0.mk A210
        clear A210
        by_cases c22 : a0_5 = 0
        · rw [if_pos c22] at H
          exact absurd H (by simp)
        · rw [if_neg c22] at H
          have c22b0 : (a0_5 == 0) = false := beq_eq_false_iff_ne.mpr c22
          have c22b1 : (a0_5 != 0) = true := bne_iff_ne.mpr c22
          obtain ⟨ji23, hji23⟩ : ∃ j_ : Int, (mn 80 (wrap64 (a1_0 + (Int.tmod a3 a0_5)))) = j_ := ⟨_, rfl⟩
          replace H : ((ramp_Next.f a0_0 a0_1 a0_2 a0_3 a0_4 a0_5 a0_6 a0_7 a1_0 a1_1 (ji23)).bind fun bt248 => (if a1_0 = 0 then (if true = true then (if t242 = 0 then (if t246 = 0 then (if bt248.2.2 = 0 then (if t240 ≤ t244 then (some true) else (some false)) else (some false)) else (some false)) else (some false)) else (some false)) else (if bt248.1 = a1_0 then (if true = true then (if t242 = 0 then (if t246 = 0 then (if bt248.2.2 = 0 then (if t240 ≤ t244 then (some (bt248.2.1 == (mn 1000000 (wrap64 (a1_1 + 1))))) else (some false)) else (some false)) else (some false)) else (some false)) else (some false)) else (if true = true then (if t242 = 0 then (if t246 = 0 then (if bt248.2.2 = 0 then (if t240 ≤ t244 then (some false) else (some false)) else (some false)) else (some false)) else (some false)) else (some false))))) = some r := by first | (rw [hji23] at H; exact H) | (simp only [hji23] at H ⊢; exact H)
          (try rw [hji23] at A20)
          (try rw [hji23] at A21)
          have hji23_ : (if (wrap64 (a1_0 + (Int.tmod a3 a0_5))) < 80 then (wrap64 (a1_0 + (Int.tmod a3 a0_5))) else 80) = ji23 := hji23
          replace H := Option.bind_eq_some_iff.mp H
          obtain ⟨⟨t248, t249, t250⟩, A240, H⟩ := H
          replace H : (if a1_0 = 0 then (if true = true then (if t242 = 0 then (if t246 = 0 then (if t250 = 0 then (if t240 ≤ t244 then (some true) else (some false)) else (some false)) else (some false)) else (some false)) else (some false)) else (if t248 = a1_0 then (if true = true then (if t242 = 0 then (if t246 = 0 then (if t250 = 0 then (if t240 ≤ t244 then (some (t249 == (mn 1000000 (wrap64 (a1_1 + 1))))) else (some false)) else (some false)) else (some false)) else (some false)) else (some false)) else (if true = true then (if t242 = 0 then (if t246 = 0 then (if t250 = 0 then (if t240 ≤ t244 then (some false) else (some false)) else (some false)) else (some false)) else (some false)) else (some false)))) = some r := H
          have A24 := Aside0.mk A240
          clear A240
          by_cases c25 : a1_0 = 0
          · rw [if_pos c25] at H
            have c25b0 : (a1_0 == 0) = true := beq_iff_eq.mpr c25
            have c25b1 : (a1_0 != 0) = false := bne_eq_false_iff_eq.mpr c25
            clear c25
            by_cases c26 : (true = true)
            · clear c26
              have H1 : (if t242 = 0 then (if t246 = 0 then (if t250 = 0 then (if t240 ≤ t244 then (some true) else (some false)) else (some false)) else (some false)) else (some false)) = some r := by rw [if_pos rfl] at H; exact H
              clear H
              have H := H1
              clear H1
              by_cases c27 : t242 = 0
              · rw [if_pos c27] at H
                have c27b0 : (t242 == 0) = true := beq_iff_eq.mpr c27
                have c27b1 : (t242 != 0) = false := bne_eq_false_iff_eq.mpr c27
                clear c27
                by_cases c28 : t246 = 0
                · rw [if_pos c28] at H
                  have c28b0 : (t246 == 0) = true := beq_iff_eq.mpr c28
                  have c28b1 : (t246 != 0) = false := bne_eq_false_iff_eq.mpr c28
                  clear c28
                  by_cases c29 : t250 = 0
                  · rw [if_pos c29] at H
                    have c29b0 : (t250 == 0) = true := beq_iff_eq.mpr c29
                    have c29b1 : (t250 != 0) = false := bne_eq_false_iff_eq.mpr c29
                    clear c29
                    by_cases c30 : t240 ≤ t244
                    · rw [if_pos c30] at H
                      have c30b0 : decide (t240 ≤ t244) = true := decide_eq_true c30
                      clear c30
                      obtain rfl := Option.some.inj H
                      simp only [Option.some.injEq, Prod.mk.injEq] at H
                      obtain ⟨rfl⟩ := H
                      have hnb31 := NB237_238.out
                      have hnc31 := NB238_237.out
                      have hcz32_0 : wc.cell? ⟨gb237, 0, none⟩ = some (.string a0_0) := (blk_cell BK237.out 0).trans rfl
                      have hcz32_1 : wc.cell? ⟨gb237, 1, none⟩ = some (.int .i64 a0_1) := (blk_cell BK237.out 1).trans rfl
                      have hcz32_2 : wc.cell? ⟨gb237, 2, none⟩ = some (.int .i64 a0_2) := (blk_cell BK237.out 2).trans rfl
                      have hcz32_3 : wc.cell? ⟨gb237, 3, none⟩ = some (.int .i64 a0_3) := (blk_cell BK237.out 3).trans rfl
                      have hcz32_4 : wc.cell? ⟨gb237, 4, none⟩ = some (.int .i64 a0_4) := (blk_cell BK237.out 4).trans rfl
                      have hcz32_5 : wc.cell? ⟨gb237, 5, none⟩ = some (.int .i64 a0_5) := (blk_cell BK237.out 5).trans rfl
                      have hcz32_6 : wc.cell? ⟨gb237, 6, none⟩ = some (.int .i64 a0_6) := (blk_cell BK237.out 6).trans rfl
                      have hcz32_7 : wc.cell? ⟨gb237, 7, none⟩ = some (.int .i64 a0_7) := (blk_cell BK237.out 7).trans rfl
                      have hfz32_0 := blk_frozen BK237.out 0
                      have hfz32_1 := blk_frozen BK237.out 1
                      have hfz32_2 := blk_frozen BK237.out 2
                      have hfz32_3 := blk_frozen BK237.out 3
                      have hfz32_4 := blk_frozen BK237.out 4
                      have hfz32_5 := blk_frozen BK237.out 5
                      have hfz32_6 := blk_frozen BK237.out 6
                      have hfz32_7 := blk_frozen BK237.out 7
                      have hcz33_0 : wc.cell? ⟨gb238, 0, none⟩ = some (.int .i64 a1_0) := (blk_cell BK238.out 0).trans rfl
                      have hcz33_1 : wc.cell? ⟨gb238, 1, none⟩ = some (.int .i64 a1_1) := (blk_cell BK238.out 1).trans rfl
                      have hfz33_0 := blk_frozen BK238.out 0
                      have hfz33_1 := blk_frozen BK238.out 1
                      try go_wp2_with (first | ((with_reducible refine gate_callee (f := 10) rfl ?_); refine goesL_ (some 47) rfl rfl Tryd.func10 (by kernel_rfl) rfl #[.agg #[.string a0_0, .int .i64 a0_1, .int .i64 a0_2, .int .i64 a0_3, .int .i64 a0_4, .int .i64 a0_5, .int .i64 a0_6, .int .i64 a0_7], .agg #[.int .i64 a1_0, .int .i64 a1_1], .int .i64 a2] rfl (by (try simp only [List.map_toArray, List.map_cons, List.map_nil]); first | done | rfl | (simp only [List.length_drop, List.length_take]; rfl)) ?_; (with_reducible refine (ramp_Next.calls a0_0 a0_1 a0_2 a0_3 a0_4 a0_5 a0_6 a0_7 a1_0 a1_1 a2 t240 t241 t242 _ (hG.below (by repeat (first | (with_reducible first | exact HB.out | apply below_alloc | apply pw_below_drewN | apply below_drew1) | exact HB.out | (refine Below.setCell ?_ (Aside0.out (by assumption)) _)))) A20.out).mono ?_); rintro e w34 ⟨rfl, hb⟩; refine ⟨_, rfl, ?_⟩; have n0_ := Aside0.mk (blk_below (g := gb237) (o := .cells #[.string a0_0, .int .i64 a0_1, .int .i64 a0_2, .int .i64 a0_3, .int .i64 a0_4, .int .i64 a0_5, .int .i64 a0_6, .int .i64 a0_7] 23 (0, 0)) (by (with_reducible repeat (first | refine blk_drewN ?_ _ | refine blk_drew ?_ | refine blk_alloc ?_ _)); exact BK237.out) hb); have n1_ := Aside0.mk (blk_below (g := gb238) (o := .cells #[.int .i64 a1_0, .int .i64 a1_1] 25 (0, 0)) (by (with_reducible repeat (first | refine blk_drewN ?_ _ | refine blk_drew ?_ | refine blk_alloc ?_ _)); exact BK238.out) hb); have n2_ := Aside0.mk (below_step (by repeat (first | (with_reducible first | exact HB.out | apply below_alloc | apply pw_below_drewN | apply below_drew1 | refine below_set ?_ GE237.out | refine below_set ?_ GE238.out) | exact HB.out)) hb); clear BK237; clear BK238; clear HB; have BK237 := n0_; have BK238 := n1_; have HB := n2_; clear n0_ n1_ n2_; (try clear hb); (try clear hb2); (try clear hk); (try clear hi)) | ((with_reducible refine gate_dst (N := 11) rfl ?_); (try (refine gate_guard (by rfl) ?_; dsimp only)); refine box_event ?hg (N := 11) ?hd (cs := #[.int .i64 0, .int .i64 0]) (t := 25) ?hr ?_; (case hd => rfl); (case hg => rfl); (case hr => first | (go_simp; done) | (go_simp; rfl)); intro gb243 hg w35 hbox hb; have n0_ := Aside0.mk (blk_below (g := gb237) (o := .cells #[.string a0_0, .int .i64 a0_1, .int .i64 a0_2, .int .i64 a0_3, .int .i64 a0_4, .int .i64 a0_5, .int .i64 a0_6, .int .i64 a0_7] 23 (0, 0)) (by (with_reducible repeat (first | refine blk_drewN ?_ _ | refine blk_drew ?_ | refine blk_alloc ?_ _)); exact BK237.out) hb); have n1_ := Aside0.mk (blk_below (g := gb238) (o := .cells #[.int .i64 a1_0, .int .i64 a1_1] 25 (0, 0)) (by (with_reducible repeat (first | refine blk_drewN ?_ _ | refine blk_drew ?_ | refine blk_alloc ?_ _)); exact BK238.out) hb); have n2_ := Aside0.mk (below_step (by repeat (first | (with_reducible first | exact HB.out | apply below_alloc | apply pw_below_drewN | apply below_drew1 | refine below_set ?_ GE237.out | refine below_set ?_ GE238.out) | exact HB.out)) hb); have n3_ := Aside0.mk (hbox); have n4_ := Aside0.mk ((by rw [hg]; exact (below_size (by repeat (first | (with_reducible first | exact HB.out | apply below_alloc | apply pw_below_drewN | apply below_drew1 | refine below_set ?_ GE237.out | refine below_set ?_ GE238.out) | exact HB.out))) : w.heap.size ≤ gb243)); have n5_ := Aside0.mk ((by rw [hg]; exact (below_size (by repeat (first | (with_reducible first | exact HB.out | apply below_alloc | apply pw_below_drewN | apply below_drew1 | refine below_set ?_ GE237.out | refine below_set ?_ GE238.out) | exact HB.out))) : w.heap.size ≤ gb243)); have n6_ := Aside0.mk ((by rw [hg]; exact Nat.ne_of_lt (blk_lt (g := gb237) (o := .cells #[.string a0_0, .int .i64 a0_1, .int .i64 a0_2, .int .i64 a0_3, .int .i64 a0_4, .int .i64 a0_5, .int .i64 a0_6, .int .i64 a0_7] 23 (0, 0)) (by (with_reducible repeat (first | refine blk_drewN ?_ _ | refine blk_drew ?_ | refine blk_alloc ?_ _)); exact BK237.out)) : gb237 ≠ gb243)); have n7_ := Aside0.mk ((by rw [hg]; exact Nat.ne_of_gt (blk_lt (g := gb237) (o := .cells #[.string a0_0, .int .i64 a0_1, .int .i64 a0_2, .int .i64 a0_3, .int .i64 a0_4, .int .i64 a0_5, .int .i64 a0_6, .int .i64 a0_7] 23 (0, 0)) (by (with_reducible repeat (first | refine blk_drewN ?_ _ | refine blk_drew ?_ | refine blk_alloc ?_ _)); exact BK237.out)) : gb243 ≠ gb237)); have n8_ := Aside0.mk ((by rw [hg]; exact Nat.ne_of_lt (blk_lt (g := gb238) (o := .cells #[.int .i64 a1_0, .int .i64 a1_1] 25 (0, 0)) (by (with_reducible repeat (first | refine blk_drewN ?_ _ | refine blk_drew ?_ | refine blk_alloc ?_ _)); exact BK238.out)) : gb238 ≠ gb243)); have n9_ := Aside0.mk ((by rw [hg]; exact Nat.ne_of_gt (blk_lt (g := gb238) (o := .cells #[.int .i64 a1_0, .int .i64 a1_1] 25 (0, 0)) (by (with_reducible repeat (first | refine blk_drewN ?_ _ | refine blk_drew ?_ | refine blk_alloc ?_ _)); exact BK238.out)) : gb243 ≠ gb238)); clear BK237; clear BK238; clear HB; have BK237 := n0_; have BK238 := n1_; have HB := n2_; have BK243 := n3_; have GW243 := n4_; have GE243 := n5_; have NB237_243 := n6_; have NB243_237 := n7_; have NB238_243 := n8_; have NB243_238 := n9_; clear n0_ n1_ n2_ n3_ n4_ n5_ n6_ n7_ n8_ n9_; clear hb hbox hg; have hnb36 := NB243_237.out; have hnc36 := NB237_243.out; have hnb37 := NB243_238.out; have hnc37 := NB238_243.out; have hcz38_0 : w35.cell? ⟨gb243, 0, none⟩ = some (.int .i64 0) := (blk_cell BK243.out 0).trans rfl; have hcz38_1 : w35.cell? ⟨gb243, 1, none⟩ = some (.int .i64 0) := (blk_cell BK243.out 1).trans rfl; have hfz38_0 := blk_frozen BK243.out 0; have hfz38_1 := blk_frozen BK243.out 1; have hcz39_0 : w35.cell? ⟨gb237, 0, none⟩ = some (.string a0_0) := (blk_cell BK237.out 0).trans rfl; have hcz39_1 : w35.cell? ⟨gb237, 1, none⟩ = some (.int .i64 a0_1) := (blk_cell BK237.out 1).trans rfl; have hcz39_2 : w35.cell? ⟨gb237, 2, none⟩ = some (.int .i64 a0_2) := (blk_cell BK237.out 2).trans rfl; have hcz39_3 : w35.cell? ⟨gb237, 3, none⟩ = some (.int .i64 a0_3) := (blk_cell BK237.out 3).trans rfl; have hcz39_4 : w35.cell? ⟨gb237, 4, none⟩ = some (.int .i64 a0_4) := (blk_cell BK237.out 4).trans rfl; have hcz39_5 : w35.cell? ⟨gb237, 5, none⟩ = some (.int .i64 a0_5) := (blk_cell BK237.out 5).trans rfl; have hcz39_6 : w35.cell? ⟨gb237, 6, none⟩ = some (.int .i64 a0_6) := (blk_cell BK237.out 6).trans rfl; have hcz39_7 : w35.cell? ⟨gb237, 7, none⟩ = some (.int .i64 a0_7) := (blk_cell BK237.out 7).trans rfl; have hfz39_0 := blk_frozen BK237.out 0; have hfz39_1 := blk_frozen BK237.out 1; have hfz39_2 := blk_frozen BK237.out 2; have hfz39_3 := blk_frozen BK237.out 3; have hfz39_4 := blk_frozen BK237.out 4; have hfz39_5 := blk_frozen BK237.out 5; have hfz39_6 := blk_frozen BK237.out 6; have hfz39_7 := blk_frozen BK237.out 7; have hcz40_0 : w35.cell? ⟨gb238, 0, none⟩ = some (.int .i64 a1_0) := (blk_cell BK238.out 0).trans rfl; have hcz40_1 : w35.cell? ⟨gb238, 1, none⟩ = some (.int .i64 a1_1) := (blk_cell BK238.out 1).trans rfl; have hfz40_0 := blk_frozen BK238.out 0; have hfz40_1 := blk_frozen BK238.out 1) | ((with_reducible refine gate_callee (f := 10) rfl ?_); refine goesL_ (some 56) rfl rfl Tryd.func10 (by kernel_rfl) rfl #[.agg #[.string a0_0, .int .i64 a0_1, .int .i64 a0_2, .int .i64 a0_3, .int .i64 a0_4, .int .i64 a0_5, .int .i64 a0_6, .int .i64 a0_7], .agg #[.int .i64 a1_0, .int .i64 a1_1], .int .i64 (wrap64 (a2 + a3))] rfl (by (try simp only [List.map_toArray, List.map_cons, List.map_nil]); first | done | rfl | (simp only [List.length_drop, List.length_take]; rfl)) ?_; (with_reducible refine (ramp_Next.calls a0_0 a0_1 a0_2 a0_3 a0_4 a0_5 a0_6 a0_7 a1_0 a1_1 (wrap64 (a2 + a3)) t244 t245 t246 _ (hG.below (by repeat (first | (with_reducible first | exact HB.out | apply below_alloc | apply pw_below_drewN | apply below_drew1) | exact HB.out | (refine Below.setCell ?_ (Aside0.out (by assumption)) _)))) A21.out).mono ?_); rintro e w41 ⟨rfl, hb⟩; refine ⟨_, rfl, ?_⟩; have n0_ := Aside0.mk (blk_below (g := gb237) (o := .cells #[.string a0_0, .int .i64 a0_1, .int .i64 a0_2, .int .i64 a0_3, .int .i64 a0_4, .int .i64 a0_5, .int .i64 a0_6, .int .i64 a0_7] 23 (0, 0)) (by (with_reducible repeat (first | refine blk_drewN ?_ _ | refine blk_drew ?_ | refine blk_alloc ?_ _)); refine blk_far ?_ NB237_243.out _; (with_reducible repeat (first | refine blk_drewN ?_ _ | refine blk_drew ?_ | refine blk_alloc ?_ _)); refine blk_far ?_ NB237_243.out _; (with_reducible repeat (first | refine blk_drewN ?_ _ | refine blk_drew ?_ | refine blk_alloc ?_ _)); exact BK237.out) hb); have n1_ := Aside0.mk (blk_below (g := gb238) (o := .cells #[.int .i64 a1_0, .int .i64 a1_1] 25 (0, 0)) (by (with_reducible repeat (first | refine blk_drewN ?_ _ | refine blk_drew ?_ | refine blk_alloc ?_ _)); refine blk_far ?_ NB238_243.out _; (with_reducible repeat (first | refine blk_drewN ?_ _ | refine blk_drew ?_ | refine blk_alloc ?_ _)); refine blk_far ?_ NB238_243.out _; (with_reducible repeat (first | refine blk_drewN ?_ _ | refine blk_drew ?_ | refine blk_alloc ?_ _)); exact BK238.out) hb); have n2_ := Aside0.mk (blk_below (g := gb243) (o := .cells #[.int .i64 t240, .int .i64 t241] 25 (0, 0)) (by (with_reducible repeat (first | refine blk_drewN ?_ _ | refine blk_drew ?_ | refine blk_alloc ?_ _)); refine blk_put (cs := #[.int .i64 t240, .int .i64 0]) ?_ 1 _ rfl; (with_reducible repeat (first | refine blk_drewN ?_ _ | refine blk_drew ?_ | refine blk_alloc ?_ _)); refine blk_put (cs := #[.int .i64 0, .int .i64 0]) ?_ 0 _ rfl; (with_reducible repeat (first | refine blk_drewN ?_ _ | refine blk_drew ?_ | refine blk_alloc ?_ _)); exact BK243.out) hb); have n3_ := Aside0.mk (below_step (by repeat (first | (with_reducible first | exact HB.out | apply below_alloc | apply pw_below_drewN | apply below_drew1 | refine below_set ?_ GE237.out | refine below_set ?_ GE238.out | refine below_set ?_ GE243.out) | exact HB.out)) hb); clear BK237; clear BK238; clear BK243; clear HB; have BK237 := n0_; have BK238 := n1_; have BK243 := n2_; have HB := n3_; clear n0_ n1_ n2_ n3_; (try clear hb); (try clear hb2); (try clear hk); (try clear hi)) | ((with_reducible refine gate_dst (N := 13) rfl ?_); (try (refine gate_guard (by rfl) ?_; dsimp only)); refine box_event ?hg (N := 13) ?hd (cs := #[.int .i64 0, .int .i64 0]) (t := 25) ?hr ?_; (case hd => rfl); (case hg => rfl); (case hr => first | (go_simp; done) | (go_simp; rfl)); intro gb247 hg w42 hbox hb; have n0_ := Aside0.mk (blk_below (g := gb237) (o := .cells #[.string a0_0, .int .i64 a0_1, .int .i64 a0_2, .int .i64 a0_3, .int .i64 a0_4, .int .i64 a0_5, .int .i64 a0_6, .int .i64 a0_7] 23 (0, 0)) (by (with_reducible repeat (first | refine blk_drewN ?_ _ | refine blk_drew ?_ | refine blk_alloc ?_ _)); exact BK237.out) hb); have n1_ := Aside0.mk (blk_below (g := gb238) (o := .cells #[.int .i64 a1_0, .int .i64 a1_1] 25 (0, 0)) (by (with_reducible repeat (first | refine blk_drewN ?_ _ | refine blk_drew ?_ | refine blk_alloc ?_ _)); exact BK238.out) hb); have n2_ := Aside0.mk (blk_below (g := gb243) (o := .cells #[.int .i64 t240, .int .i64 t241] 25 (0, 0)) (by (with_reducible repeat (first | refine blk_drewN ?_ _ | refine blk_drew ?_ | refine blk_alloc ?_ _)); exact BK243.out) hb); have n3_ := Aside0.mk (below_step (by repeat (first | (with_reducible first | exact HB.out | apply below_alloc | apply pw_below_drewN | apply below_drew1 | refine below_set ?_ GE237.out | refine below_set ?_ GE238.out | refine below_set ?_ GE243.out) | exact HB.out)) hb); have n4_ := Aside0.mk (hbox); have n5_ := Aside0.mk ((by rw [hg]; exact (below_size (by repeat (first | (with_reducible first | exact HB.out | apply below_alloc | apply pw_below_drewN | apply below_drew1 | refine below_set ?_ GE237.out | refine below_set ?_ GE238.out | refine below_set ?_ GE243.out) | exact HB.out))) : w.heap.size ≤ gb247)); have n6_ := Aside0.mk ((by rw [hg]; exact (below_size (by repeat (first | (with_reducible first | exact HB.out | apply below_alloc | apply pw_below_drewN | apply below_drew1 | refine below_set ?_ GE237.out | refine below_set ?_ GE238.out | refine below_set ?_ GE243.out) | exact HB.out))) : w.heap.size ≤ gb247)); have n7_ := Aside0.mk ((by rw [hg]; exact Nat.ne_of_lt (blk_lt (g := gb237) (o := .cells #[.string a0_0, .int .i64 a0_1, .int .i64 a0_2, .int .i64 a0_3, .int .i64 a0_4, .int .i64 a0_5, .int .i64 a0_6, .int .i64 a0_7] 23 (0, 0)) (by (with_reducible repeat (first | refine blk_drewN ?_ _ | refine blk_drew ?_ | refine blk_alloc ?_ _)); exact BK237.out)) : gb237 ≠ gb247)); have n8_ := Aside0.mk ((by rw [hg]; exact Nat.ne_of_gt (blk_lt (g := gb237) (o := .cells #[.string a0_0, .int .i64 a0_1, .int .i64 a0_2, .int .i64 a0_3, .int .i64 a0_4, .int .i64 a0_5, .int .i64 a0_6, .int .i64 a0_7] 23 (0, 0)) (by (with_reducible repeat (first | refine blk_drewN ?_ _ | refine blk_drew ?_ | refine blk_alloc ?_ _)); exact BK237.out)) : gb247 ≠ gb237)); have n9_ := Aside0.mk ((by rw [hg]; exact Nat.ne_of_lt (blk_lt (g := gb238) (o := .cells #[.int .i64 a1_0, .int .i64 a1_1] 25 (0, 0)) (by (with_reducible repeat (first | refine blk_drewN ?_ _ | refine blk_drew ?_ | refine blk_alloc ?_ _)); exact BK238.out)) : gb238 ≠ gb247)); have n10_ := Aside0.mk ((by rw [hg]; exact Nat.ne_of_gt (blk_lt (g := gb238) (o := .cells #[.int .i64 a1_0, .int .i64 a1_1] 25 (0, 0)) (by (with_reducible repeat (first | refine blk_drewN ?_ _ | refine blk_drew ?_ | refine blk_alloc ?_ _)); exact BK238.out)) : gb247 ≠ gb238)); have n11_ := Aside0.mk ((by rw [hg]; exact Nat.ne_of_lt (blk_lt (g := gb243) (o := .cells #[.int .i64 t240, .int .i64 t241] 25 (0, 0)) (by (with_reducible repeat (first | refine blk_drewN ?_ _ | refine blk_drew ?_ | refine blk_alloc ?_ _)); exact BK243.out)) : gb243 ≠ gb247)); have n12_ := Aside0.mk ((by rw [hg]; exact Nat.ne_of_gt (blk_lt (g := gb243) (o := .cells #[.int .i64 t240, .int .i64 t241] 25 (0, 0)) (by (with_reducible repeat (first | refine blk_drewN ?_ _ | refine blk_drew ?_ | refine blk_alloc ?_ _)); exact BK243.out)) : gb247 ≠ gb243)); clear BK237; clear BK238; clear BK243; clear HB; have BK237 := n0_; have BK238 := n1_; have BK243 := n2_; have HB := n3_; have BK247 := n4_; have GW247 := n5_; have GE247 := n6_; have NB237_247 := n7_; have NB247_237 := n8_; have NB238_247 := n9_; have NB247_238 := n10_; have NB243_247 := n11_; have NB247_243 := n12_; clear n0_ n1_ n2_ n3_ n4_ n5_ n6_ n7_ n8_ n9_ n10_ n11_ n12_; clear hb hbox hg; have hnb43 := NB247_237.out; have hnc43 := NB237_247.out; have hnb44 := NB247_238.out; have hnc44 := NB238_247.out; have hnb45 := NB247_243.out; have hnc45 := NB243_247.out; have hcz46_0 : w42.cell? ⟨gb247, 0, none⟩ = some (.int .i64 0) := (blk_cell BK247.out 0).trans rfl; have hcz46_1 : w42.cell? ⟨gb247, 1, none⟩ = some (.int .i64 0) := (blk_cell BK247.out 1).trans rfl; have hfz46_0 := blk_frozen BK247.out 0; have hfz46_1 := blk_frozen BK247.out 1))
                      have n0_ : Aside0 (((w42.setCell ⟨gb247, 0, none⟩ (.int .i64 t244)).setCell ⟨gb247, 1, none⟩ (.int .i64 t245)).heap[gb237]? = some (.cells #[.string a0_0, .int .i64 a0_1, .int .i64 a0_2, .int .i64 a0_3, .int .i64 a0_4, .int .i64 a0_5, .int .i64 a0_6, .int .i64 a0_7] 23 (0, 0))) := ⟨by (with_reducible repeat (first | refine blk_drewN ?_ _ | refine blk_drew ?_ | refine blk_alloc ?_ _)); refine blk_far ?_ NB237_247.out _; (with_reducible repeat (first | refine blk_drewN ?_ _ | refine blk_drew ?_ | refine blk_alloc ?_ _)); refine blk_far ?_ NB237_247.out _; (with_reducible repeat (first | refine blk_drewN ?_ _ | refine blk_drew ?_ | refine blk_alloc ?_ _)); exact BK237.out⟩
                      have n1_ : Aside0 (((w42.setCell ⟨gb247, 0, none⟩ (.int .i64 t244)).setCell ⟨gb247, 1, none⟩ (.int .i64 t245)).heap[gb238]? = some (.cells #[.int .i64 a1_0, .int .i64 a1_1] 25 (0, 0))) := ⟨by (with_reducible repeat (first | refine blk_drewN ?_ _ | refine blk_drew ?_ | refine blk_alloc ?_ _)); refine blk_far ?_ NB238_247.out _; (with_reducible repeat (first | refine blk_drewN ?_ _ | refine blk_drew ?_ | refine blk_alloc ?_ _)); refine blk_far ?_ NB238_247.out _; (with_reducible repeat (first | refine blk_drewN ?_ _ | refine blk_drew ?_ | refine blk_alloc ?_ _)); exact BK238.out⟩
                      have n2_ : Aside0 (((w42.setCell ⟨gb247, 0, none⟩ (.int .i64 t244)).setCell ⟨gb247, 1, none⟩ (.int .i64 t245)).heap[gb243]? = some (.cells #[.int .i64 t240, .int .i64 t241] 25 (0, 0))) := ⟨by (with_reducible repeat (first | refine blk_drewN ?_ _ | refine blk_drew ?_ | refine blk_alloc ?_ _)); refine blk_far ?_ NB243_247.out _; (with_reducible repeat (first | refine blk_drewN ?_ _ | refine blk_drew ?_ | refine blk_alloc ?_ _)); refine blk_far ?_ NB243_247.out _; (with_reducible repeat (first | refine blk_drewN ?_ _ | refine blk_drew ?_ | refine blk_alloc ?_ _)); exact BK243.out⟩
                      have n3_ : Aside0 (((w42.setCell ⟨gb247, 0, none⟩ (.int .i64 t244)).setCell ⟨gb247, 1, none⟩ (.int .i64 t245)).heap[gb247]? = some (.cells #[.int .i64 t244, .int .i64 t245] 25 (0, 0))) := ⟨by (with_reducible repeat (first | refine blk_drewN ?_ _ | refine blk_drew ?_ | refine blk_alloc ?_ _)); refine blk_put (cs := #[.int .i64 t244, .int .i64 0]) ?_ 1 _ rfl; (with_reducible repeat (first | refine blk_drewN ?_ _ | refine blk_drew ?_ | refine blk_alloc ?_ _)); refine blk_put (cs := #[.int .i64 0, .int .i64 0]) ?_ 0 _ rfl; (with_reducible repeat (first | refine blk_drewN ?_ _ | refine blk_drew ?_ | refine blk_alloc ?_ _)); exact BK247.out⟩
                      have n4_ : Aside0 (Below w.heap.size w ((w42.setCell ⟨gb247, 0, none⟩ (.int .i64 t244)).setCell ⟨gb247, 1, none⟩ (.int .i64 t245))) := ⟨by repeat (first | (with_reducible first | exact HB.out | apply below_alloc | apply pw_below_drewN | apply below_drew1 | refine below_set ?_ GE237.out | refine below_set ?_ GE238.out | refine below_set ?_ GE243.out | refine below_set ?_ GE247.out) | exact HB.out)⟩
                      (try clear BK237)
                      (try clear BK238)
                      (try clear BK243)
                      (try clear BK247)
                      (try clear HB)
                      generalize ((w42.setCell ⟨gb247, 0, none⟩ (.int .i64 t244)).setCell ⟨gb247, 1, none⟩ (.int .i64 t245)) = w47 at n0_ n1_ n2_ n3_ n4_ ⊢
                      have BK237 := n0_
                      have BK238 := n1_
                      have BK243 := n2_
                      have BK247 := n3_
                      have HB := n4_
                      clear n0_ n1_ n2_ n3_ n4_
                      have n0_ := Aside0.mk (blk_drew BK237.out)
                      have n1_ := Aside0.mk (blk_drew BK238.out)
                      have n2_ := Aside0.mk (blk_drew BK243.out)
                      have n3_ := Aside0.mk (blk_drew BK247.out)
                      have n4_ := Aside0.mk (below_drew1 HB.out)
                      clear BK237
                      clear BK238
                      clear BK243
                      clear BK247
                      clear HB
                      have BK237 := n0_
                      have BK238 := n1_
                      have BK243 := n2_
                      have BK247 := n3_
                      have HB := n4_
                      clear n0_ n1_ n2_ n3_ n4_
                      refine start_ (n := 17) (S := fun w' => w'.cell? ⟨gb237, 0, none⟩ = some (.string a0_0) ∧ w'.cell? ⟨gb237, 1, none⟩ = some (.int .i64 a0_1) ∧ w'.cell? ⟨gb237, 2, none⟩ = some (.int .i64 a0_2) ∧ w'.cell? ⟨gb237, 3, none⟩ = some (.int .i64 a0_3) ∧ w'.cell? ⟨gb237, 4, none⟩ = some (.int .i64 a0_4) ∧ w'.cell? ⟨gb237, 5, none⟩ = some (.int .i64 a0_5) ∧ w'.cell? ⟨gb237, 6, none⟩ = some (.int .i64 a0_6) ∧ w'.cell? ⟨gb237, 7, none⟩ = some (.int .i64 a0_7) ∧ w'.cell? ⟨gb238, 0, none⟩ = some (.int .i64 a1_0) ∧ w'.cell? ⟨gb238, 1, none⟩ = some (.int .i64 a1_1)) (ds := []) #[false, false, false, false, false, false, false, false, false, false, false, false, false, false, false, false, false] (by kernel_rfl) rfl rfl ⟨(blk_cell BK237.out 0).trans rfl, (blk_cell BK237.out 1).trans rfl, (blk_cell BK237.out 2).trans rfl, (blk_cell BK237.out 3).trans rfl, (blk_cell BK237.out 4).trans rfl, (blk_cell BK237.out 5).trans rfl, (blk_cell BK237.out 6).trans rfl, (blk_cell BK237.out 7).trans rfl, (blk_cell BK238.out 0).trans rfl, (blk_cell BK238.out 1).trans rfl⟩ (fun hHeld => ?_); refine with_tabW chargeparklaw24_RampOrder.tab7 chargeparklaw24_RampOrder.bits7 (fun HT_ HW_ => ?_)
                      generalize w47.drew = w48 at BK237 BK238 BK243 BK247 HB hHeld ⊢
                      refine pure_ (i := 2) (N := some 62) (v := ?_) (a' := ?_) #[false, false, true, false, false, false, false, false, false, false, false, false, false, false, false, false, false] rfl rfl (any_of HT_.out (by kernel_rfl)) (fun _ _ _ h => h) (Or.inl ⟨by rfl, ?_⟩) ?_ ?_
                      rotate_left
                      · intro w'
                        go_simp
                        with_reducible rfl
                      rotate_left
                      · simp only [Act.put, List.setIfInBounds_toArray, List.set_cons_zero, List.set_cons_succ, i64_w, i32_w]
                        rfl
                      refine pure_ (i := 4) (N := some 64) (v := ?_) (a' := ?_) #[false, false, true, false, true, false, false, false, false, false, false, false, false, false, false, false, false] rfl rfl (any_of HT_.out (by kernel_rfl)) (fun _ _ _ h => h) (Or.inl ⟨by rfl, ?_⟩) ?_ ?_
                      rotate_left
                      · intro w'
                        go_simp
                        with_reducible rfl
                      rotate_left
                      · simp only [Act.put, List.setIfInBounds_toArray, List.set_cons_zero, List.set_cons_succ, i64_w, i32_w]
                        rfl
                      refine pure_ (i := 5) (N := some 65) (v := ?_) (a' := ?_) #[false, false, true, false, true, true, false, false, false, false, false, false, false, false, false, false, false] rfl rfl (any_of HT_.out (by kernel_rfl)) (fun _ _ _ h => h) (Or.inl ⟨by rfl, ?_⟩) ?_ ?_
                      rotate_left
                      · intro w'
                        go_simp
                        with_reducible rfl
                      rotate_left
                      · simp only [Act.put, List.setIfInBounds_toArray, List.set_cons_zero, List.set_cons_succ, i64_w, i32_w]
                        rfl
                      refine take_ (i := 0) (N := some 60) (v := ?_) (a' := ?_) #[true, false, true, false, true, true, false, false, false, false, false, false, false, false, false, false, false] rfl rfl (take_ofW HT_.out HW_.out (by kernel_rfl)) (fun _ _ _ h => h) (Or.inl ⟨by rfl, ?_⟩) hHeld ?_ ?_
                      rotate_left
                      · rintro w' ⟨s0, s1, s2, s3, s4, s5, s6, s7, s8, s9⟩
                        go_simp
                        with_reducible rfl
                      rotate_left
                      · simp only [Act.put, List.setIfInBounds_toArray, List.set_cons_zero, List.set_cons_succ, i64_w, i32_w]
                        rfl
                      refine take_ (i := 1) (N := some 61) (v := ?_) (a' := ?_) #[true, true, true, false, true, true, false, false, false, false, false, false, false, false, false, false, false] rfl rfl (take_ofW HT_.out HW_.out (by kernel_rfl)) (fun _ _ _ h => h) (Or.inl ⟨by rfl, ?_⟩) hHeld ?_ ?_
                      rotate_left
                      · rintro w' ⟨s0, s1, s2, s3, s4, s5, s6, s7, s8, s9⟩
                        go_simp
                        with_reducible rfl
                      rotate_left
                      · simp only [Act.put, List.setIfInBounds_toArray, List.set_cons_zero, List.set_cons_succ, i64_w, i32_w]
                        rfl
                      refine take_ (i := 3) (N := some 63) (v := ?_) (a' := ?_) #[true, true, true, true, true, true, false, false, false, false, false, false, false, false, false, false, false] rfl rfl (take_ofW HT_.out HW_.out (by kernel_rfl)) (fun _ _ _ h => h) (Or.inl ⟨by rfl, ?_⟩) hHeld ?_ ?_
                      rotate_left
                      · rintro w' ⟨s0, s1, s2, s3, s4, s5, s6, s7, s8, s9⟩
                        go_simp
                        with_reducible rfl
                      rotate_left
                      · simp only [Act.put, List.setIfInBounds_toArray, List.set_cons_zero, List.set_cons_succ, i64_w, i32_w]
                        rfl
                      refine take_ (i := 6) (N := some 66) (v := ?_) (a' := ?_) #[true, true, true, true, true, true, true, false, false, false, false, false, false, false, false, false, false] rfl rfl (take_ofW HT_.out HW_.out (by kernel_rfl)) (fun _ _ _ h => h) (Or.inl ⟨by rfl, ?_⟩) hHeld ?_ ?_
                      rotate_left
                      · rintro w' ⟨s0, s1, s2, s3, s4, s5, s6, s7, s8, s9⟩
                        go_simp
                        with_reducible rfl
                      rotate_left
                      · simp only [Act.put, List.setIfInBounds_toArray, List.set_cons_zero, List.set_cons_succ, i64_w, i32_w]
                        rfl
                      refine pure_ (i := 7) (N := some 67) (v := ?_) (a' := ?_) #[true, true, true, true, true, true, true, true, false, false, false, false, false, false, false, false, false] rfl rfl (any_of HT_.out (by kernel_rfl)) (fun _ _ _ h => h) (Or.inl ⟨by rfl, ?_⟩) ?_ ?_
                      rotate_left
                      · intro w'
                        go_simp
                        with_reducible rfl
                      rotate_left
                      · simp only [Act.put, List.setIfInBounds_toArray, List.set_cons_zero, List.set_cons_succ, i64_w, i32_w]
                        rfl
                      refine pure_ (i := 8) (N := some 68) (v := ?_) (a' := ?_) #[true, true, true, true, true, true, true, true, true, false, false, false, false, false, false, false, false] rfl rfl (any_of HT_.out (by kernel_rfl)) (fun _ _ _ h => h) (Or.inl ⟨by rfl, ?_⟩) ?_ ?_
                      rotate_left
                      · intro w'
                        go_simp
                        with_reducible rfl
                      rotate_left
                      · simp only [Act.put, List.setIfInBounds_toArray, List.set_cons_zero, List.set_cons_succ, i64_w, i32_w]
                        rfl
                      refine pure_ (i := 9) (N := some 69) (v := ?_) (a' := ?_) #[true, true, true, true, true, true, true, true, true, true, false, false, false, false, false, false, false] rfl rfl (any_of HT_.out (by kernel_rfl)) (fun _ _ _ h => h) (Or.inl ⟨by rfl, ?_⟩) ?_ ?_
                      rotate_left
                      · intro w'
                        go_simp
                        with_reducible rfl
                      rotate_left
                      · simp only [Act.put, List.setIfInBounds_toArray, List.set_cons_zero, List.set_cons_succ, i64_w, i32_w]
                        rfl
                      refine join_ (σ := Nat) 2 #[true, true, true, true, true, true, true, true, true, true, true, true, true, true, true, false, false] (fun s_ => [(70, .tuple #[.agg #[.int .i64 t248, .int .i64 t249], .int .i64 t250]), (15, .pointer (some ⟨s_, 0, none⟩)), (59, .tuple #[.agg #[.int .i64 t248, .int .i64 t249], .int .i64 t250]), (71, .agg #[.int .i64 t248, .int .i64 t249]), (72, .int .i64 t250)]) (fun s_ w' => (w'.cell? ⟨gb237, 0, none⟩ = some (.string a0_0) ∧ w'.cell? ⟨gb237, 1, none⟩ = some (.int .i64 a0_1) ∧ w'.cell? ⟨gb237, 2, none⟩ = some (.int .i64 a0_2) ∧ w'.cell? ⟨gb237, 3, none⟩ = some (.int .i64 a0_3) ∧ w'.cell? ⟨gb237, 4, none⟩ = some (.int .i64 a0_4) ∧ w'.cell? ⟨gb237, 5, none⟩ = some (.int .i64 a0_5) ∧ w'.cell? ⟨gb237, 6, none⟩ = some (.int .i64 a0_6) ∧ w'.cell? ⟨gb237, 7, none⟩ = some (.int .i64 a0_7) ∧ w'.cell? ⟨gb238, 0, none⟩ = some (.int .i64 a1_0) ∧ w'.cell? ⟨gb238, 1, none⟩ = some (.int .i64 a1_1)) ∧ (w'.heap[gb237]? = some (.cells #[.string a0_0, .int .i64 a0_1, .int .i64 a0_2, .int .i64 a0_3, .int .i64 a0_4, .int .i64 a0_5, .int .i64 a0_6, .int .i64 a0_7] 23 (0, 0))) ∧ (w'.heap[gb238]? = some (.cells #[.int .i64 a1_0, .int .i64 a1_1] 25 (0, 0))) ∧ (w'.heap[gb243]? = some (.cells #[.int .i64 t240, .int .i64 t241] 25 (0, 0))) ∧ (w'.heap[gb247]? = some (.cells #[.int .i64 t244, .int .i64 t245] 25 (0, 0))) ∧ (w'.heap[s_]? = some (.cells #[.int .i64 0, .int .i64 0] 25 (0, 0))) ∧ (w.heap.size ≤ s_) ∧ (w.heap.size ≤ s_) ∧ (gb237 ≠ s_) ∧ (s_ ≠ gb237) ∧ (gb238 ≠ s_) ∧ (s_ ≠ gb238) ∧ (gb243 ≠ s_) ∧ (s_ ≠ gb243) ∧ (gb247 ≠ s_) ∧ (s_ ≠ gb247) ∧ (Below w.heap.size w w')) ?_ ?_
                      rotate_left
                      · intro hCont
                        refine two_ (i := 10) (j := 14) (Ni := some 70) (Nj := some 15) #[true, true, true, true, true, true, true, true, true, true, true, false, false, false, false, false, false] #[true, true, true, true, true, true, true, true, true, true, false, false, false, false, true, false, false] rfl rfl rfl rfl (two_of HT_.out (by kernel_rfl)) (by decide) (by decide) (fun K hK => ?_) (fun K hK => ?_)
                        · skip
                          refine goes_ Tryd.func10 (by kernel_rfl) rfl #[.agg #[.string a0_0, .int .i64 a0_1, .int .i64 a0_2, .int .i64 a0_3, .int .i64 a0_4, .int .i64 a0_5, .int .i64 a0_6, .int .i64 a0_7], .agg #[.int .i64 a1_0, .int .i64 a1_1], .int .i64 ji23] (by rfl) rfl rfl (by (try simp only [List.map_toArray, List.map_cons, List.map_nil]); first | done | (simp only [hji23]; rfl) | rfl | (simp only [List.length_drop, List.length_take]; rfl)) ?_
                          with_reducible refine (ramp_Next.calls a0_0 a0_1 a0_2 a0_3 a0_4 a0_5 a0_6 a0_7 a1_0 a1_1 ji23 t248 t249 t250 _ (hG.below (by repeat (first | (with_reducible first | exact HB.out | apply below_alloc | apply pw_below_drewN | apply below_drew1) | exact HB.out | (refine Below.setCell ?_ (Aside0.out (by assumption)) _)))) A24.out).mono ?_
                          rintro e w49 ⟨rfl, hb⟩
                          refine ⟨_, rfl, ?_⟩
                          have n0_ := Aside0.mk (blk_below (g := gb237) (o := .cells #[.string a0_0, .int .i64 a0_1, .int .i64 a0_2, .int .i64 a0_3, .int .i64 a0_4, .int .i64 a0_5, .int .i64 a0_6, .int .i64 a0_7] 23 (0, 0)) (by (with_reducible repeat (first | refine blk_drewN ?_ _ | refine blk_drew ?_ | refine blk_alloc ?_ _)); exact BK237.out) hb)
                          have n1_ := Aside0.mk (blk_below (g := gb238) (o := .cells #[.int .i64 a1_0, .int .i64 a1_1] 25 (0, 0)) (by (with_reducible repeat (first | refine blk_drewN ?_ _ | refine blk_drew ?_ | refine blk_alloc ?_ _)); exact BK238.out) hb)
                          have n2_ := Aside0.mk (blk_below (g := gb243) (o := .cells #[.int .i64 t240, .int .i64 t241] 25 (0, 0)) (by (with_reducible repeat (first | refine blk_drewN ?_ _ | refine blk_drew ?_ | refine blk_alloc ?_ _)); exact BK243.out) hb)
                          have n3_ := Aside0.mk (blk_below (g := gb247) (o := .cells #[.int .i64 t244, .int .i64 t245] 25 (0, 0)) (by (with_reducible repeat (first | refine blk_drewN ?_ _ | refine blk_drew ?_ | refine blk_alloc ?_ _)); exact BK247.out) hb)
                          have n4_ := Aside0.mk (below_step (by repeat (first | (with_reducible first | exact HB.out | apply below_alloc | apply pw_below_drewN | apply below_drew1 | refine below_set ?_ GE237.out | refine below_set ?_ GE238.out | refine below_set ?_ GE243.out | refine below_set ?_ GE247.out) | exact HB.out)) hb)
                          clear BK237
                          clear BK238
                          clear BK243
                          clear BK247
                          clear HB
                          have BK237 := n0_
                          have BK238 := n1_
                          have BK243 := n2_
                          have BK247 := n3_
                          have HB := n4_
                          clear n0_ n1_ n2_ n3_ n4_
                          (try clear hb)
                          (try clear hb2)
                          (try clear hk)
                          (try clear hi)
                          refine hK.out _ _ ⟨(blk_cell BK237.out 0).trans rfl, (blk_cell BK237.out 1).trans rfl, (blk_cell BK237.out 2).trans rfl, (blk_cell BK237.out 3).trans rfl, (blk_cell BK237.out 4).trans rfl, (blk_cell BK237.out 5).trans rfl, (blk_cell BK237.out 6).trans rfl, (blk_cell BK237.out 7).trans rfl, (blk_cell BK238.out 0).trans rfl, (blk_cell BK238.out 1).trans rfl⟩ (fun hHeld => ?_)
                          clear hK K
                          refine norm_ (a' := ?_) ?_ ?_
                          rotate_left
                          · show Act.put _ (some 70) _ = _
                            simp only [Act.put, List.setIfInBounds_toArray, List.set_cons_zero, List.set_cons_succ, i64_w, i32_w]
                            rfl
                          refine pure_ (i := 11) (N := some 59) (v := ?_) (a' := ?_) #[true, true, true, true, true, true, true, true, true, true, true, true, false, false, false, false, false] rfl rfl (any_of HT_.out (by kernel_rfl)) (fun _ _ _ h => h) (Or.inl ⟨by rfl, ?_⟩) ?_ ?_
                          rotate_left
                          · intro w'
                            go_simp
                            with_reducible rfl
                          rotate_left
                          · simp only [Act.put, List.setIfInBounds_toArray, List.set_cons_zero, List.set_cons_succ, i64_w, i32_w]
                            rfl
                          refine pure_ (i := 12) (N := some 71) (v := ?_) (a' := ?_) #[true, true, true, true, true, true, true, true, true, true, true, true, true, false, false, false, false] rfl rfl (any_of HT_.out (by kernel_rfl)) (fun _ _ _ h => h) (Or.inl ⟨by rfl, ?_⟩) ?_ ?_
                          rotate_left
                          · intro w'
                            go_simp
                            with_reducible rfl
                          rotate_left
                          · simp only [Act.put, List.setIfInBounds_toArray, List.set_cons_zero, List.set_cons_succ, i64_w, i32_w]
                            rfl
                          refine pure_ (i := 13) (N := some 72) (v := ?_) (a' := ?_) #[true, true, true, true, true, true, true, true, true, true, true, true, true, true, false, false, false] rfl rfl (any_of HT_.out (by kernel_rfl)) (fun _ _ _ h => h) (Or.inl ⟨by rfl, ?_⟩) ?_ ?_
                          rotate_left
                          · intro w'
                            go_simp
                            with_reducible rfl
                          rotate_left
                          · simp only [Act.put, List.setIfInBounds_toArray, List.set_cons_zero, List.set_cons_succ, i64_w, i32_w]
                            rfl
                          refine one_ (i := 14) (N := some 15) #[true, true, true, true, true, true, true, true, true, true, true, true, true, true, true, false, false] rfl rfl (one_of HT_.out (by kernel_rfl)) (by decide) (fun K hK => ?_)
                          refine box_step ?hg (N := 15) ?hd (cs := #[.int .i64 0, .int .i64 0]) (t := 25) ?hr ?_; (case hd => rfl); (case hg => rfl); (case hr => first | (go_simp; done) | (go_simp; rfl))
                          intro gb251 hg w50 hbox hb
                          have n0_ := Aside0.mk (blk_below (g := gb237) (o := .cells #[.string a0_0, .int .i64 a0_1, .int .i64 a0_2, .int .i64 a0_3, .int .i64 a0_4, .int .i64 a0_5, .int .i64 a0_6, .int .i64 a0_7] 23 (0, 0)) (by (with_reducible repeat (first | refine blk_drewN ?_ _ | refine blk_drew ?_ | refine blk_alloc ?_ _)); exact BK237.out) hb)
                          have n1_ := Aside0.mk (blk_below (g := gb238) (o := .cells #[.int .i64 a1_0, .int .i64 a1_1] 25 (0, 0)) (by (with_reducible repeat (first | refine blk_drewN ?_ _ | refine blk_drew ?_ | refine blk_alloc ?_ _)); exact BK238.out) hb)
                          have n2_ := Aside0.mk (blk_below (g := gb243) (o := .cells #[.int .i64 t240, .int .i64 t241] 25 (0, 0)) (by (with_reducible repeat (first | refine blk_drewN ?_ _ | refine blk_drew ?_ | refine blk_alloc ?_ _)); exact BK243.out) hb)
                          have n3_ := Aside0.mk (blk_below (g := gb247) (o := .cells #[.int .i64 t244, .int .i64 t245] 25 (0, 0)) (by (with_reducible repeat (first | refine blk_drewN ?_ _ | refine blk_drew ?_ | refine blk_alloc ?_ _)); exact BK247.out) hb)
                          have n4_ := Aside0.mk (below_step (by repeat (first | (with_reducible first | exact HB.out | apply below_alloc | apply pw_below_drewN | apply below_drew1 | refine below_set ?_ GE237.out | refine below_set ?_ GE238.out | refine below_set ?_ GE243.out | refine below_set ?_ GE247.out) | exact HB.out)) hb)
                          have n5_ := Aside0.mk (hbox)
                          have n6_ := Aside0.mk ((by rw [hg]; exact (below_size (by repeat (first | (with_reducible first | exact HB.out | apply below_alloc | apply pw_below_drewN | apply below_drew1 | refine below_set ?_ GE237.out | refine below_set ?_ GE238.out | refine below_set ?_ GE243.out | refine below_set ?_ GE247.out) | exact HB.out))) : w.heap.size ≤ gb251))
                          have n7_ := Aside0.mk ((by rw [hg]; exact (below_size (by repeat (first | (with_reducible first | exact HB.out | apply below_alloc | apply pw_below_drewN | apply below_drew1 | refine below_set ?_ GE237.out | refine below_set ?_ GE238.out | refine below_set ?_ GE243.out | refine below_set ?_ GE247.out) | exact HB.out))) : w.heap.size ≤ gb251))
                          have n8_ := Aside0.mk ((by rw [hg]; exact Nat.ne_of_lt (blk_lt (g := gb237) (o := .cells #[.string a0_0, .int .i64 a0_1, .int .i64 a0_2, .int .i64 a0_3, .int .i64 a0_4, .int .i64 a0_5, .int .i64 a0_6, .int .i64 a0_7] 23 (0, 0)) (by (with_reducible repeat (first | refine blk_drewN ?_ _ | refine blk_drew ?_ | refine blk_alloc ?_ _)); exact BK237.out)) : gb237 ≠ gb251))
                          have n9_ := Aside0.mk ((by rw [hg]; exact Nat.ne_of_gt (blk_lt (g := gb237) (o := .cells #[.string a0_0, .int .i64 a0_1, .int .i64 a0_2, .int .i64 a0_3, .int .i64 a0_4, .int .i64 a0_5, .int .i64 a0_6, .int .i64 a0_7] 23 (0, 0)) (by (with_reducible repeat (first | refine blk_drewN ?_ _ | refine blk_drew ?_ | refine blk_alloc ?_ _)); exact BK237.out)) : gb251 ≠ gb237))
                          have n10_ := Aside0.mk ((by rw [hg]; exact Nat.ne_of_lt (blk_lt (g := gb238) (o := .cells #[.int .i64 a1_0, .int .i64 a1_1] 25 (0, 0)) (by (with_reducible repeat (first | refine blk_drewN ?_ _ | refine blk_drew ?_ | refine blk_alloc ?_ _)); exact BK238.out)) : gb238 ≠ gb251))
                          have n11_ := Aside0.mk ((by rw [hg]; exact Nat.ne_of_gt (blk_lt (g := gb238) (o := .cells #[.int .i64 a1_0, .int .i64 a1_1] 25 (0, 0)) (by (with_reducible repeat (first | refine blk_drewN ?_ _ | refine blk_drew ?_ | refine blk_alloc ?_ _)); exact BK238.out)) : gb251 ≠ gb238))
                          have n12_ := Aside0.mk ((by rw [hg]; exact Nat.ne_of_lt (blk_lt (g := gb243) (o := .cells #[.int .i64 t240, .int .i64 t241] 25 (0, 0)) (by (with_reducible repeat (first | refine blk_drewN ?_ _ | refine blk_drew ?_ | refine blk_alloc ?_ _)); exact BK243.out)) : gb243 ≠ gb251))
                          have n13_ := Aside0.mk ((by rw [hg]; exact Nat.ne_of_gt (blk_lt (g := gb243) (o := .cells #[.int .i64 t240, .int .i64 t241] 25 (0, 0)) (by (with_reducible repeat (first | refine blk_drewN ?_ _ | refine blk_drew ?_ | refine blk_alloc ?_ _)); exact BK243.out)) : gb251 ≠ gb243))
                          have n14_ := Aside0.mk ((by rw [hg]; exact Nat.ne_of_lt (blk_lt (g := gb247) (o := .cells #[.int .i64 t244, .int .i64 t245] 25 (0, 0)) (by (with_reducible repeat (first | refine blk_drewN ?_ _ | refine blk_drew ?_ | refine blk_alloc ?_ _)); exact BK247.out)) : gb247 ≠ gb251))
                          have n15_ := Aside0.mk ((by rw [hg]; exact Nat.ne_of_gt (blk_lt (g := gb247) (o := .cells #[.int .i64 t244, .int .i64 t245] 25 (0, 0)) (by (with_reducible repeat (first | refine blk_drewN ?_ _ | refine blk_drew ?_ | refine blk_alloc ?_ _)); exact BK247.out)) : gb251 ≠ gb247))
                          clear BK237
                          clear BK238
                          clear BK243
                          clear BK247
                          clear HB
                          have BK237 := n0_
                          have BK238 := n1_
                          have BK243 := n2_
                          have BK247 := n3_
                          have HB := n4_
                          have BK251 := n5_
                          have GW251 := n6_
                          have GE251 := n7_
                          have NB237_251 := n8_
                          have NB251_237 := n9_
                          have NB238_251 := n10_
                          have NB251_238 := n11_
                          have NB243_251 := n12_
                          have NB251_243 := n13_
                          have NB247_251 := n14_
                          have NB251_247 := n15_
                          clear n0_ n1_ n2_ n3_ n4_ n5_ n6_ n7_ n8_ n9_ n10_ n11_ n12_ n13_ n14_ n15_
                          clear hb hbox hg
                          refine hK.out _ _ ⟨(blk_cell BK237.out 0).trans rfl, (blk_cell BK237.out 1).trans rfl, (blk_cell BK237.out 2).trans rfl, (blk_cell BK237.out 3).trans rfl, (blk_cell BK237.out 4).trans rfl, (blk_cell BK237.out 5).trans rfl, (blk_cell BK237.out 6).trans rfl, (blk_cell BK237.out 7).trans rfl, (blk_cell BK238.out 0).trans rfl, (blk_cell BK238.out 1).trans rfl⟩ (fun hHeld => ?_)
                          clear hK K
                          refine norm_ (a' := ?_) ?_ ?_
                          rotate_left
                          · show Act.put _ (some 15) _ = _
                            simp only [Act.put, List.setIfInBounds_toArray, List.set_cons_zero, List.set_cons_succ, i64_w, i32_w]
                            rfl
                          exact norm_ (by simp only [putAll, Act.put, List.setIfInBounds_toArray, List.set_cons_zero, List.set_cons_succ]) (hCont (gb251) _ ⟨hHeld, (by (with_reducible repeat (first | refine blk_drewN ?_ _ | refine blk_drew ?_ | refine blk_alloc ?_ _)); exact BK237.out), (by (with_reducible repeat (first | refine blk_drewN ?_ _ | refine blk_drew ?_ | refine blk_alloc ?_ _)); exact BK238.out), (by (with_reducible repeat (first | refine blk_drewN ?_ _ | refine blk_drew ?_ | refine blk_alloc ?_ _)); exact BK243.out), (by (with_reducible repeat (first | refine blk_drewN ?_ _ | refine blk_drew ?_ | refine blk_alloc ?_ _)); exact BK247.out), (by (with_reducible repeat (first | refine blk_drewN ?_ _ | refine blk_drew ?_ | refine blk_alloc ?_ _)); exact BK251.out), GW251.out, GE251.out, NB237_251.out, NB251_237.out, NB238_251.out, NB251_238.out, NB243_251.out, NB251_243.out, NB247_251.out, NB251_247.out, (by repeat (first | (with_reducible first | exact HB.out | apply below_alloc | apply pw_below_drewN | apply below_drew1 | refine below_set ?_ GE237.out | refine below_set ?_ GE238.out | refine below_set ?_ GE243.out | refine below_set ?_ GE247.out | refine below_set ?_ GE251.out) | exact HB.out))⟩)
                        · skip
                          refine box_step ?hg (N := 15) ?hd (cs := #[.int .i64 0, .int .i64 0]) (t := 25) ?hr ?_; (case hd => rfl); (case hg => rfl); (case hr => first | (go_simp; done) | (go_simp; rfl))
                          intro gb251 hg w49 hbox hb
                          have n0_ := Aside0.mk (blk_below (g := gb237) (o := .cells #[.string a0_0, .int .i64 a0_1, .int .i64 a0_2, .int .i64 a0_3, .int .i64 a0_4, .int .i64 a0_5, .int .i64 a0_6, .int .i64 a0_7] 23 (0, 0)) (by (with_reducible repeat (first | refine blk_drewN ?_ _ | refine blk_drew ?_ | refine blk_alloc ?_ _)); exact BK237.out) hb)
                          have n1_ := Aside0.mk (blk_below (g := gb238) (o := .cells #[.int .i64 a1_0, .int .i64 a1_1] 25 (0, 0)) (by (with_reducible repeat (first | refine blk_drewN ?_ _ | refine blk_drew ?_ | refine blk_alloc ?_ _)); exact BK238.out) hb)
                          have n2_ := Aside0.mk (blk_below (g := gb243) (o := .cells #[.int .i64 t240, .int .i64 t241] 25 (0, 0)) (by (with_reducible repeat (first | refine blk_drewN ?_ _ | refine blk_drew ?_ | refine blk_alloc ?_ _)); exact BK243.out) hb)
                          have n3_ := Aside0.mk (blk_below (g := gb247) (o := .cells #[.int .i64 t244, .int .i64 t245] 25 (0, 0)) (by (with_reducible repeat (first | refine blk_drewN ?_ _ | refine blk_drew ?_ | refine blk_alloc ?_ _)); exact BK247.out) hb)
                          have n4_ := Aside0.mk (below_step (by repeat (first | (with_reducible first | exact HB.out | apply below_alloc | apply pw_below_drewN | apply below_drew1 | refine below_set ?_ GE237.out | refine below_set ?_ GE238.out | refine below_set ?_ GE243.out | refine below_set ?_ GE247.out) | exact HB.out)) hb)
                          have n5_ := Aside0.mk (hbox)
                          have n6_ := Aside0.mk ((by rw [hg]; exact (below_size (by repeat (first | (with_reducible first | exact HB.out | apply below_alloc | apply pw_below_drewN | apply below_drew1 | refine below_set ?_ GE237.out | refine below_set ?_ GE238.out | refine below_set ?_ GE243.out | refine below_set ?_ GE247.out) | exact HB.out))) : w.heap.size ≤ gb251))
                          have n7_ := Aside0.mk ((by rw [hg]; exact (below_size (by repeat (first | (with_reducible first | exact HB.out | apply below_alloc | apply pw_below_drewN | apply below_drew1 | refine below_set ?_ GE237.out | refine below_set ?_ GE238.out | refine below_set ?_ GE243.out | refine below_set ?_ GE247.out) | exact HB.out))) : w.heap.size ≤ gb251))
                          have n8_ := Aside0.mk ((by rw [hg]; exact Nat.ne_of_lt (blk_lt (g := gb237) (o := .cells #[.string a0_0, .int .i64 a0_1, .int .i64 a0_2, .int .i64 a0_3, .int .i64 a0_4, .int .i64 a0_5, .int .i64 a0_6, .int .i64 a0_7] 23 (0, 0)) (by (with_reducible repeat (first | refine blk_drewN ?_ _ | refine blk_drew ?_ | refine blk_alloc ?_ _)); exact BK237.out)) : gb237 ≠ gb251))
                          have n9_ := Aside0.mk ((by rw [hg]; exact Nat.ne_of_gt (blk_lt (g := gb237) (o := .cells #[.string a0_0, .int .i64 a0_1, .int .i64 a0_2, .int .i64 a0_3, .int .i64 a0_4, .int .i64 a0_5, .int .i64 a0_6, .int .i64 a0_7] 23 (0, 0)) (by (with_reducible repeat (first | refine blk_drewN ?_ _ | refine blk_drew ?_ | refine blk_alloc ?_ _)); exact BK237.out)) : gb251 ≠ gb237))
                          have n10_ := Aside0.mk ((by rw [hg]; exact Nat.ne_of_lt (blk_lt (g := gb238) (o := .cells #[.int .i64 a1_0, .int .i64 a1_1] 25 (0, 0)) (by (with_reducible repeat (first | refine blk_drewN ?_ _ | refine blk_drew ?_ | refine blk_alloc ?_ _)); exact BK238.out)) : gb238 ≠ gb251))
                          have n11_ := Aside0.mk ((by rw [hg]; exact Nat.ne_of_gt (blk_lt (g := gb238) (o := .cells #[.int .i64 a1_0, .int .i64 a1_1] 25 (0, 0)) (by (with_reducible repeat (first | refine blk_drewN ?_ _ | refine blk_drew ?_ | refine blk_alloc ?_ _)); exact BK238.out)) : gb251 ≠ gb238))
                          have n12_ := Aside0.mk ((by rw [hg]; exact Nat.ne_of_lt (blk_lt (g := gb243) (o := .cells #[.int .i64 t240, .int .i64 t241] 25 (0, 0)) (by (with_reducible repeat (first | refine blk_drewN ?_ _ | refine blk_drew ?_ | refine blk_alloc ?_ _)); exact BK243.out)) : gb243 ≠ gb251))
                          have n13_ := Aside0.mk ((by rw [hg]; exact Nat.ne_of_gt (blk_lt (g := gb243) (o := .cells #[.int .i64 t240, .int .i64 t241] 25 (0, 0)) (by (with_reducible repeat (first | refine blk_drewN ?_ _ | refine blk_drew ?_ | refine blk_alloc ?_ _)); exact BK243.out)) : gb251 ≠ gb243))
                          have n14_ := Aside0.mk ((by rw [hg]; exact Nat.ne_of_lt (blk_lt (g := gb247) (o := .cells #[.int .i64 t244, .int .i64 t245] 25 (0, 0)) (by (with_reducible repeat (first | refine blk_drewN ?_ _ | refine blk_drew ?_ | refine blk_alloc ?_ _)); exact BK247.out)) : gb247 ≠ gb251))
                          have n15_ := Aside0.mk ((by rw [hg]; exact Nat.ne_of_gt (blk_lt (g := gb247) (o := .cells #[.int .i64 t244, .int .i64 t245] 25 (0, 0)) (by (with_reducible repeat (first | refine blk_drewN ?_ _ | refine blk_drew ?_ | refine blk_alloc ?_ _)); exact BK247.out)) : gb251 ≠ gb247))
                          clear BK237
                          clear BK238
                          clear BK243
                          clear BK247
                          clear HB
                          have BK237 := n0_
                          have BK238 := n1_
                          have BK243 := n2_
                          have BK247 := n3_
                          have HB := n4_
                          have BK251 := n5_
                          have GW251 := n6_
                          have GE251 := n7_
                          have NB237_251 := n8_
                          have NB251_237 := n9_
                          have NB238_251 := n10_
                          have NB251_238 := n11_
                          have NB243_251 := n12_
                          have NB251_243 := n13_
                          have NB247_251 := n14_
                          have NB251_247 := n15_
                          clear n0_ n1_ n2_ n3_ n4_ n5_ n6_ n7_ n8_ n9_ n10_ n11_ n12_ n13_ n14_ n15_
                          clear hb hbox hg
                          refine hK.out _ _ ⟨(blk_cell BK237.out 0).trans rfl, (blk_cell BK237.out 1).trans rfl, (blk_cell BK237.out 2).trans rfl, (blk_cell BK237.out 3).trans rfl, (blk_cell BK237.out 4).trans rfl, (blk_cell BK237.out 5).trans rfl, (blk_cell BK237.out 6).trans rfl, (blk_cell BK237.out 7).trans rfl, (blk_cell BK238.out 0).trans rfl, (blk_cell BK238.out 1).trans rfl⟩ (fun hHeld => ?_)
                          clear hK K
                          refine norm_ (a' := ?_) ?_ ?_
                          rotate_left
                          · show Act.put _ (some 15) _ = _
                            simp only [Act.put, List.setIfInBounds_toArray, List.set_cons_zero, List.set_cons_succ, i64_w, i32_w]
                            rfl
                          refine one_ (i := 10) (N := some 70) #[true, true, true, true, true, true, true, true, true, true, true, false, false, false, true, false, false] rfl rfl (one_of HT_.out (by kernel_rfl)) (by decide) (fun K hK => ?_)
                          refine goes_ Tryd.func10 (by kernel_rfl) rfl #[.agg #[.string a0_0, .int .i64 a0_1, .int .i64 a0_2, .int .i64 a0_3, .int .i64 a0_4, .int .i64 a0_5, .int .i64 a0_6, .int .i64 a0_7], .agg #[.int .i64 a1_0, .int .i64 a1_1], .int .i64 ji23] (by rfl) rfl rfl (by (try simp only [List.map_toArray, List.map_cons, List.map_nil]); first | done | (simp only [hji23]; rfl) | rfl | (simp only [List.length_drop, List.length_take]; rfl)) ?_
                          with_reducible refine (ramp_Next.calls a0_0 a0_1 a0_2 a0_3 a0_4 a0_5 a0_6 a0_7 a1_0 a1_1 ji23 t248 t249 t250 _ (hG.below (by repeat (first | (with_reducible first | exact HB.out | apply below_alloc | apply pw_below_drewN | apply below_drew1) | exact HB.out | (refine Below.setCell ?_ (Aside0.out (by assumption)) _)))) A24.out).mono ?_
                          rintro e w50 ⟨rfl, hb⟩
                          refine ⟨_, rfl, ?_⟩
                          have n0_ := Aside0.mk (blk_below (g := gb237) (o := .cells #[.string a0_0, .int .i64 a0_1, .int .i64 a0_2, .int .i64 a0_3, .int .i64 a0_4, .int .i64 a0_5, .int .i64 a0_6, .int .i64 a0_7] 23 (0, 0)) (by (with_reducible repeat (first | refine blk_drewN ?_ _ | refine blk_drew ?_ | refine blk_alloc ?_ _)); exact BK237.out) hb)
                          have n1_ := Aside0.mk (blk_below (g := gb238) (o := .cells #[.int .i64 a1_0, .int .i64 a1_1] 25 (0, 0)) (by (with_reducible repeat (first | refine blk_drewN ?_ _ | refine blk_drew ?_ | refine blk_alloc ?_ _)); exact BK238.out) hb)
                          have n2_ := Aside0.mk (blk_below (g := gb243) (o := .cells #[.int .i64 t240, .int .i64 t241] 25 (0, 0)) (by (with_reducible repeat (first | refine blk_drewN ?_ _ | refine blk_drew ?_ | refine blk_alloc ?_ _)); exact BK243.out) hb)
                          have n3_ := Aside0.mk (blk_below (g := gb247) (o := .cells #[.int .i64 t244, .int .i64 t245] 25 (0, 0)) (by (with_reducible repeat (first | refine blk_drewN ?_ _ | refine blk_drew ?_ | refine blk_alloc ?_ _)); exact BK247.out) hb)
                          have n4_ := Aside0.mk (blk_below (g := gb251) (o := .cells #[.int .i64 0, .int .i64 0] 25 (0, 0)) (by (with_reducible repeat (first | refine blk_drewN ?_ _ | refine blk_drew ?_ | refine blk_alloc ?_ _)); exact BK251.out) hb)
                          have n5_ := Aside0.mk (below_step (by repeat (first | (with_reducible first | exact HB.out | apply below_alloc | apply pw_below_drewN | apply below_drew1 | refine below_set ?_ GE237.out | refine below_set ?_ GE238.out | refine below_set ?_ GE243.out | refine below_set ?_ GE247.out | refine below_set ?_ GE251.out) | exact HB.out)) hb)
                          clear BK237
                          clear BK238
                          clear BK243
                          clear BK247
                          clear BK251
                          clear HB
                          have BK237 := n0_
                          have BK238 := n1_
                          have BK243 := n2_
                          have BK247 := n3_
                          have BK251 := n4_
                          have HB := n5_
                          clear n0_ n1_ n2_ n3_ n4_ n5_
                          (try clear hb)
                          (try clear hb2)
                          (try clear hk)
                          (try clear hi)
                          refine hK.out _ _ ⟨(blk_cell BK237.out 0).trans rfl, (blk_cell BK237.out 1).trans rfl, (blk_cell BK237.out 2).trans rfl, (blk_cell BK237.out 3).trans rfl, (blk_cell BK237.out 4).trans rfl, (blk_cell BK237.out 5).trans rfl, (blk_cell BK237.out 6).trans rfl, (blk_cell BK237.out 7).trans rfl, (blk_cell BK238.out 0).trans rfl, (blk_cell BK238.out 1).trans rfl⟩ (fun hHeld => ?_)
                          clear hK K
                          refine norm_ (a' := ?_) ?_ ?_
                          rotate_left
                          · show Act.put _ (some 70) _ = _
                            simp only [Act.put, List.setIfInBounds_toArray, List.set_cons_zero, List.set_cons_succ, i64_w, i32_w]
                            rfl
                          refine pure_ (i := 11) (N := some 59) (v := ?_) (a' := ?_) #[true, true, true, true, true, true, true, true, true, true, true, true, false, false, true, false, false] rfl rfl (any_of HT_.out (by kernel_rfl)) (fun _ _ _ h => h) (Or.inl ⟨by rfl, ?_⟩) ?_ ?_
                          rotate_left
                          · intro w'
                            go_simp
                            with_reducible rfl
                          rotate_left
                          · simp only [Act.put, List.setIfInBounds_toArray, List.set_cons_zero, List.set_cons_succ, i64_w, i32_w]
                            rfl
                          refine pure_ (i := 12) (N := some 71) (v := ?_) (a' := ?_) #[true, true, true, true, true, true, true, true, true, true, true, true, true, false, true, false, false] rfl rfl (any_of HT_.out (by kernel_rfl)) (fun _ _ _ h => h) (Or.inl ⟨by rfl, ?_⟩) ?_ ?_
                          rotate_left
                          · intro w'
                            go_simp
                            with_reducible rfl
                          rotate_left
                          · simp only [Act.put, List.setIfInBounds_toArray, List.set_cons_zero, List.set_cons_succ, i64_w, i32_w]
                            rfl
                          refine pure_ (i := 13) (N := some 72) (v := ?_) (a' := ?_) #[true, true, true, true, true, true, true, true, true, true, true, true, true, true, true, false, false] rfl rfl (any_of HT_.out (by kernel_rfl)) (fun _ _ _ h => h) (Or.inl ⟨by rfl, ?_⟩) ?_ ?_
                          rotate_left
                          · intro w'
                            go_simp
                            with_reducible rfl
                          rotate_left
                          · simp only [Act.put, List.setIfInBounds_toArray, List.set_cons_zero, List.set_cons_succ, i64_w, i32_w]
                            rfl
                          exact norm_ (by simp only [putAll, Act.put, List.setIfInBounds_toArray, List.set_cons_zero, List.set_cons_succ]) (hCont (gb251) _ ⟨hHeld, (by (with_reducible repeat (first | refine blk_drewN ?_ _ | refine blk_drew ?_ | refine blk_alloc ?_ _)); exact BK237.out), (by (with_reducible repeat (first | refine blk_drewN ?_ _ | refine blk_drew ?_ | refine blk_alloc ?_ _)); exact BK238.out), (by (with_reducible repeat (first | refine blk_drewN ?_ _ | refine blk_drew ?_ | refine blk_alloc ?_ _)); exact BK243.out), (by (with_reducible repeat (first | refine blk_drewN ?_ _ | refine blk_drew ?_ | refine blk_alloc ?_ _)); exact BK247.out), (by (with_reducible repeat (first | refine blk_drewN ?_ _ | refine blk_drew ?_ | refine blk_alloc ?_ _)); exact BK251.out), GW251.out, GE251.out, NB237_251.out, NB251_237.out, NB238_251.out, NB251_238.out, NB243_251.out, NB251_243.out, NB247_251.out, NB251_247.out, (by repeat (first | (with_reducible first | exact HB.out | apply below_alloc | apply pw_below_drewN | apply below_drew1 | refine below_set ?_ GE237.out | refine below_set ?_ GE238.out | refine below_set ?_ GE243.out | refine below_set ?_ GE247.out | refine below_set ?_ GE251.out) | exact HB.out))⟩)
                      rintro gb251 w51 ⟨hS_, h0_, h1_, h2_, h3_, h4_, h5_, h6_, h7_, h8_, h9_, h10_, h11_, h12_, h13_, h14_, h15_⟩
                      have n0_ : Aside0 (w51.heap[gb237]? = some (.cells #[.string a0_0, .int .i64 a0_1, .int .i64 a0_2, .int .i64 a0_3, .int .i64 a0_4, .int .i64 a0_5, .int .i64 a0_6, .int .i64 a0_7] 23 (0, 0))) := ⟨h0_⟩
                      have n1_ : Aside0 (w51.heap[gb238]? = some (.cells #[.int .i64 a1_0, .int .i64 a1_1] 25 (0, 0))) := ⟨h1_⟩
                      have n2_ : Aside0 (w51.heap[gb243]? = some (.cells #[.int .i64 t240, .int .i64 t241] 25 (0, 0))) := ⟨h2_⟩
                      have n3_ : Aside0 (w51.heap[gb247]? = some (.cells #[.int .i64 t244, .int .i64 t245] 25 (0, 0))) := ⟨h3_⟩
                      have n4_ : Aside0 (w51.heap[gb251]? = some (.cells #[.int .i64 0, .int .i64 0] 25 (0, 0))) := ⟨h4_⟩
                      have n5_ : Aside0 (w.heap.size ≤ gb251) := ⟨h5_⟩
                      have n6_ : Aside0 (w.heap.size ≤ gb251) := ⟨h6_⟩
                      have n7_ : Aside0 (gb237 ≠ gb251) := ⟨h7_⟩
                      have n8_ : Aside0 (gb251 ≠ gb237) := ⟨h8_⟩
                      have n9_ : Aside0 (gb238 ≠ gb251) := ⟨h9_⟩
                      have n10_ : Aside0 (gb251 ≠ gb238) := ⟨h10_⟩
                      have n11_ : Aside0 (gb243 ≠ gb251) := ⟨h11_⟩
                      have n12_ : Aside0 (gb251 ≠ gb243) := ⟨h12_⟩
                      have n13_ : Aside0 (gb247 ≠ gb251) := ⟨h13_⟩
                      have n14_ : Aside0 (gb251 ≠ gb247) := ⟨h14_⟩
                      have n15_ : Aside0 (Below w.heap.size w w51) := ⟨h15_⟩
                      clear BK237
                      clear BK238
                      clear BK243
                      clear BK247
                      clear HB
                      clear h0_ h1_ h2_ h3_ h4_ h5_ h6_ h7_ h8_ h9_ h10_ h11_ h12_ h13_ h14_ h15_
                      have BK237 := n0_
                      have BK238 := n1_
                      have BK243 := n2_
                      have BK247 := n3_
                      have BK251 := n4_
                      have GW251 := n5_
                      have GE251 := n6_
                      have NB237_251 := n7_
                      have NB251_237 := n8_
                      have NB238_251 := n9_
                      have NB251_238 := n10_
                      have NB243_251 := n11_
                      have NB251_243 := n12_
                      have NB247_251 := n13_
                      have NB251_247 := n14_
                      have HB := n15_
                      clear n0_ n1_ n2_ n3_ n4_ n5_ n6_ n7_ n8_ n9_ n10_ n11_ n12_ n13_ n14_ n15_
                      have hHeld : w51.cell? ⟨gb237, 0, none⟩ = some (.string a0_0) ∧ w51.cell? ⟨gb237, 1, none⟩ = some (.int .i64 a0_1) ∧ w51.cell? ⟨gb237, 2, none⟩ = some (.int .i64 a0_2) ∧ w51.cell? ⟨gb237, 3, none⟩ = some (.int .i64 a0_3) ∧ w51.cell? ⟨gb237, 4, none⟩ = some (.int .i64 a0_4) ∧ w51.cell? ⟨gb237, 5, none⟩ = some (.int .i64 a0_5) ∧ w51.cell? ⟨gb237, 6, none⟩ = some (.int .i64 a0_6) ∧ w51.cell? ⟨gb237, 7, none⟩ = some (.int .i64 a0_7) ∧ w51.cell? ⟨gb238, 0, none⟩ = some (.int .i64 a1_0) ∧ w51.cell? ⟨gb238, 1, none⟩ = some (.int .i64 a1_1) := hS_
                      refine norm_ (a' := ?_) ?_ ?_
                      rotate_left
                      · simp only [putAll, Act.put, List.setIfInBounds_toArray, List.set_cons_zero, List.set_cons_succ]
                        rfl
                      refine one_ (i := 15) (N := none) #[true, true, true, true, true, true, true, true, true, true, true, true, true, true, true, true, false] rfl rfl (one_of HT_.out (by kernel_rfl)) (by decide) (fun K hK => ?_)
                      have hs52 : w51.cell? ⟨gb251, 0, none⟩ = some (.int .i64 0) := (blk_cell BK251.out 0).trans rfl
                      have hfs52 := blk_frozen BK251.out 0
                      have hns52_0 := NB237_251.out
                      have hns52_1 := NB238_251.out
                      have hns52_2 := NB243_251.out
                      have hns52_3 := NB247_251.out
                      have hms52_0 := NB251_237.out
                      have hms52_1 := NB251_238.out
                      have hms52_2 := NB251_243.out
                      have hms52_3 := NB251_247.out
                      have hs53 : w51.cell? ⟨gb251, 1, none⟩ = some (.int .i64 0) := (blk_cell BK251.out 1).trans rfl
                      have hfs53 := blk_frozen BK251.out 1
                      have hns53_0 := NB237_251.out
                      have hns53_1 := NB238_251.out
                      have hns53_2 := NB243_251.out
                      have hns53_3 := NB247_251.out
                      have hms53_0 := NB251_237.out
                      have hms53_1 := NB251_238.out
                      have hms53_2 := NB251_243.out
                      have hms53_3 := NB251_247.out
                      refine skip_ (w1 := ?_) (by rfl) rfl ?_ ?_
                      rotate_left
                      · go_simp
                        rfl
                      refine hK.out _ _ ⟨((cell_far (p := ⟨gb251, _, none⟩) NB237_251.out _).trans (((cell_far (p := ⟨gb251, _, none⟩) NB237_251.out _).trans (hHeld.1)))), ((cell_far (p := ⟨gb251, _, none⟩) NB237_251.out _).trans (((cell_far (p := ⟨gb251, _, none⟩) NB237_251.out _).trans (hHeld.2.1)))), ((cell_far (p := ⟨gb251, _, none⟩) NB237_251.out _).trans (((cell_far (p := ⟨gb251, _, none⟩) NB237_251.out _).trans (hHeld.2.2.1)))), ((cell_far (p := ⟨gb251, _, none⟩) NB237_251.out _).trans (((cell_far (p := ⟨gb251, _, none⟩) NB237_251.out _).trans (hHeld.2.2.2.1)))), ((cell_far (p := ⟨gb251, _, none⟩) NB237_251.out _).trans (((cell_far (p := ⟨gb251, _, none⟩) NB237_251.out _).trans (hHeld.2.2.2.2.1)))), ((cell_far (p := ⟨gb251, _, none⟩) NB237_251.out _).trans (((cell_far (p := ⟨gb251, _, none⟩) NB237_251.out _).trans (hHeld.2.2.2.2.2.1)))), ((cell_far (p := ⟨gb251, _, none⟩) NB237_251.out _).trans (((cell_far (p := ⟨gb251, _, none⟩) NB237_251.out _).trans (hHeld.2.2.2.2.2.2.1)))), ((cell_far (p := ⟨gb251, _, none⟩) NB237_251.out _).trans (((cell_far (p := ⟨gb251, _, none⟩) NB237_251.out _).trans (hHeld.2.2.2.2.2.2.2.1)))), ((cell_far (p := ⟨gb251, _, none⟩) NB238_251.out _).trans (((cell_far (p := ⟨gb251, _, none⟩) NB238_251.out _).trans (hHeld.2.2.2.2.2.2.2.2.1)))), ((cell_far (p := ⟨gb251, _, none⟩) NB238_251.out _).trans (((cell_far (p := ⟨gb251, _, none⟩) NB238_251.out _).trans (hHeld.2.2.2.2.2.2.2.2.2))))⟩ (fun hHeld => ?_)
                      clear hK K
                      refine pure_ (i := 16) (N := some 16) (v := ?_) (a' := ?_) #[true, true, true, true, true, true, true, true, true, true, true, true, true, true, true, true, true] rfl rfl (any_of HT_.out (by kernel_rfl)) (fun _ _ _ h => h) (Or.inl ⟨by rfl, ?_⟩) ?_ ?_
                      rotate_left
                      · intro w'
                        go_simp
                        with_reducible rfl
                      rotate_left
                      · simp only [Act.put, List.setIfInBounds_toArray, List.set_cons_zero, List.set_cons_succ, i64_w, i32_w]
                        rfl
                      refine done_ (done_of HT_.out (by kernel_rfl)) ?_
                      have hnb54 := NB238_251.out
                      have hnc54 := NB251_238.out
                      have hcz55_0 : w51.cell? ⟨gb238, 0, none⟩ = some (.int .i64 a1_0) := (blk_cell BK238.out 0).trans rfl
                      have hcz55_1 : w51.cell? ⟨gb238, 1, none⟩ = some (.int .i64 a1_1) := (blk_cell BK238.out 1).trans rfl
                      have hfz55_0 := blk_frozen BK238.out 0
                      have hfz55_1 := blk_frozen BK238.out 1
                      have hnb56 := NB243_251.out
                      have hnc56 := NB251_243.out
                      have hcz57_0 : w51.cell? ⟨gb243, 0, none⟩ = some (.int .i64 t240) := (blk_cell BK243.out 0).trans rfl
                      have hcz57_1 : w51.cell? ⟨gb243, 1, none⟩ = some (.int .i64 t241) := (blk_cell BK243.out 1).trans rfl
                      have hfz57_0 := blk_frozen BK243.out 0
                      have hfz57_1 := blk_frozen BK243.out 1
                      have hnb58 := NB247_251.out
                      have hnc58 := NB251_247.out
                      have hcz59_0 : w51.cell? ⟨gb247, 0, none⟩ = some (.int .i64 t244) := (blk_cell BK247.out 0).trans rfl
                      have hcz59_1 : w51.cell? ⟨gb247, 1, none⟩ = some (.int .i64 t245) := (blk_cell BK247.out 1).trans rfl
                      have hfz59_0 := blk_frozen BK247.out 0
                      have hfz59_1 := blk_frozen BK247.out 1
                      try go_wp2
                      go_ret
                      exact ⟨by first | rfl | (simp [errW_none, errW_some] <;> rfl) | (simp only [← hji23]; first | rfl | (simp [errW_none, errW_some] <;> rfl)) | (simp [*, errW_none, errW_some] <;> rfl), by repeat (first | (with_reducible first | exact HB.out | apply below_alloc | apply pw_below_drewN | apply below_drew1 | refine below_set ?_ GE237.out | refine below_set ?_ GE238.out | refine below_set ?_ GE243.out | refine below_set ?_ GE247.out | refine below_set ?_ GE251.out) | exact HB.out)⟩
                    · rw [if_neg c30] at H
                      have c30b0 : decide (t240 ≤ t244) = false := decide_eq_false c30
                      clear c30
                      obtain rfl := Option.some.inj H
                      exact absurd hr.out (by decide)
                  · rw [if_neg c29] at H
                    have c29b0 : (t250 == 0) = false := beq_eq_false_iff_ne.mpr c29
                    have c29b1 : (t250 != 0) = true := bne_iff_ne.mpr c29
                    obtain rfl := Option.some.inj H
                    exact absurd hr.out (by decide)
                · rw [if_neg c28] at H
                  have c28b0 : (t246 == 0) = false := beq_eq_false_iff_ne.mpr c28
                  have c28b1 : (t246 != 0) = true := bne_iff_ne.mpr c28
                  obtain rfl := Option.some.inj H
                  exact absurd hr.out (by decide)
              · rw [if_neg c27] at H
                have c27b0 : (t242 == 0) = false := beq_eq_false_iff_ne.mpr c27
                have c27b1 : (t242 != 0) = true := bne_iff_ne.mpr c27
                obtain rfl := Option.some.inj H
                exact absurd hr.out (by decide)
            · exact absurd rfl c26
          · rw [if_neg c25] at H
            have c25b0 : (a1_0 == 0) = false := beq_eq_false_iff_ne.mpr c25
            have c25b1 : (a1_0 != 0) = true := bne_iff_ne.mpr c25
            by_cases c60 : t248 = a1_0
            · rw [if_pos c60] at H
              have c60b0 : (t248 == a1_0) = true := beq_iff_eq.mpr c60
              have c60b1 : (t248 != a1_0) = false := bne_eq_false_iff_eq.mpr c60
              clear c60
              obtain ⟨ji61, hji61⟩ : ∃ j_ : Int, (mn 1000000 (wrap64 (a1_1 + 1))) = j_ := ⟨_, rfl⟩
              replace H : (if true = true then (if t242 = 0 then (if t246 = 0 then (if t250 = 0 then (if t240 ≤ t244 then (some (t249 == (ji61))) else (some false)) else (some false)) else (some false)) else (some false)) else (some false)) = some r := by first | (rw [hji61] at H; exact H) | (simp only [hji61] at H ⊢; exact H)
              (try rw [hji61] at A20)
              (try rw [hji61] at A21)
              (try rw [hji61] at A24)
              have hji61_ : (if (wrap64 (a1_1 + 1)) < 1000000 then (wrap64 (a1_1 + 1)) else 1000000) = ji61 := hji61
              by_cases c62 : (true = true)
              · clear c62
                have H1 : (if t242 = 0 then (if t246 = 0 then (if t250 = 0 then (if t240 ≤ t244 then (some (t249 == (ji61))) else (some false)) else (some false)) else (some false)) else (some false)) = some r := by rw [if_pos rfl] at H; exact H
                clear H
                have H := H1
                clear H1
                by_cases c63 : t242 = 0
                · rw [if_pos c63] at H
                  have c63b0 : (t242 == 0) = true := beq_iff_eq.mpr c63
                  have c63b1 : (t242 != 0) = false := bne_eq_false_iff_eq.mpr c63
                  clear c63
                  by_cases c64 : t246 = 0
                  · rw [if_pos c64] at H
                    have c64b0 : (t246 == 0) = true := beq_iff_eq.mpr c64
                    have c64b1 : (t246 != 0) = false := bne_eq_false_iff_eq.mpr c64
                    clear c64
                    by_cases c65 : t250 = 0
                    · rw [if_pos c65] at H
                      have c65b0 : (t250 == 0) = true := beq_iff_eq.mpr c65
                      have c65b1 : (t250 != 0) = false := bne_eq_false_iff_eq.mpr c65
                      clear c65
                      by_cases c66 : t240 ≤ t244
                      · rw [if_pos c66] at H
                        have c66b0 : decide (t240 ≤ t244) = true := decide_eq_true c66
                        clear c66
                        obtain rfl := Option.some.inj H
                        simp only [Option.some.injEq, Prod.mk.injEq] at H
                        obtain ⟨rfl⟩ := H
                        have hnb67 := NB237_238.out
                        have hnc67 := NB238_237.out
                        have hcz68_0 : wc.cell? ⟨gb237, 0, none⟩ = some (.string a0_0) := (blk_cell BK237.out 0).trans rfl
                        have hcz68_1 : wc.cell? ⟨gb237, 1, none⟩ = some (.int .i64 a0_1) := (blk_cell BK237.out 1).trans rfl
                        have hcz68_2 : wc.cell? ⟨gb237, 2, none⟩ = some (.int .i64 a0_2) := (blk_cell BK237.out 2).trans rfl
                        have hcz68_3 : wc.cell? ⟨gb237, 3, none⟩ = some (.int .i64 a0_3) := (blk_cell BK237.out 3).trans rfl
                        have hcz68_4 : wc.cell? ⟨gb237, 4, none⟩ = some (.int .i64 a0_4) := (blk_cell BK237.out 4).trans rfl
                        have hcz68_5 : wc.cell? ⟨gb237, 5, none⟩ = some (.int .i64 a0_5) := (blk_cell BK237.out 5).trans rfl
                        have hcz68_6 : wc.cell? ⟨gb237, 6, none⟩ = some (.int .i64 a0_6) := (blk_cell BK237.out 6).trans rfl
                        have hcz68_7 : wc.cell? ⟨gb237, 7, none⟩ = some (.int .i64 a0_7) := (blk_cell BK237.out 7).trans rfl
                        have hfz68_0 := blk_frozen BK237.out 0
                        have hfz68_1 := blk_frozen BK237.out 1
                        have hfz68_2 := blk_frozen BK237.out 2
                        have hfz68_3 := blk_frozen BK237.out 3
                        have hfz68_4 := blk_frozen BK237.out 4
                        have hfz68_5 := blk_frozen BK237.out 5
                        have hfz68_6 := blk_frozen BK237.out 6
                        have hfz68_7 := blk_frozen BK237.out 7
                        have hcz69_0 : wc.cell? ⟨gb238, 0, none⟩ = some (.int .i64 a1_0) := (blk_cell BK238.out 0).trans rfl
                        have hcz69_1 : wc.cell? ⟨gb238, 1, none⟩ = some (.int .i64 a1_1) := (blk_cell BK238.out 1).trans rfl
                        have hfz69_0 := blk_frozen BK238.out 0
                        have hfz69_1 := blk_frozen BK238.out 1
                        try go_wp2_with (first | ((with_reducible refine gate_callee (f := 10) rfl ?_); refine goesL_ (some 47) rfl rfl Tryd.func10 (by kernel_rfl) rfl #[.agg #[.string a0_0, .int .i64 a0_1, .int .i64 a0_2, .int .i64 a0_3, .int .i64 a0_4, .int .i64 a0_5, .int .i64 a0_6, .int .i64 a0_7], .agg #[.int .i64 a1_0, .int .i64 a1_1], .int .i64 a2] rfl (by (try simp only [List.map_toArray, List.map_cons, List.map_nil]); first | done | rfl | (simp only [List.length_drop, List.length_take]; rfl)) ?_; (with_reducible refine (ramp_Next.calls a0_0 a0_1 a0_2 a0_3 a0_4 a0_5 a0_6 a0_7 a1_0 a1_1 a2 t240 t241 t242 _ (hG.below (by repeat (first | (with_reducible first | exact HB.out | apply below_alloc | apply pw_below_drewN | apply below_drew1) | exact HB.out | (refine Below.setCell ?_ (Aside0.out (by assumption)) _)))) A20.out).mono ?_); rintro e w70 ⟨rfl, hb⟩; refine ⟨_, rfl, ?_⟩; have n0_ := Aside0.mk (blk_below (g := gb237) (o := .cells #[.string a0_0, .int .i64 a0_1, .int .i64 a0_2, .int .i64 a0_3, .int .i64 a0_4, .int .i64 a0_5, .int .i64 a0_6, .int .i64 a0_7] 23 (0, 0)) (by (with_reducible repeat (first | refine blk_drewN ?_ _ | refine blk_drew ?_ | refine blk_alloc ?_ _)); exact BK237.out) hb); have n1_ := Aside0.mk (blk_below (g := gb238) (o := .cells #[.int .i64 a1_0, .int .i64 a1_1] 25 (0, 0)) (by (with_reducible repeat (first | refine blk_drewN ?_ _ | refine blk_drew ?_ | refine blk_alloc ?_ _)); exact BK238.out) hb); have n2_ := Aside0.mk (below_step (by repeat (first | (with_reducible first | exact HB.out | apply below_alloc | apply pw_below_drewN | apply below_drew1 | refine below_set ?_ GE237.out | refine below_set ?_ GE238.out) | exact HB.out)) hb); clear BK237; clear BK238; clear HB; have BK237 := n0_; have BK238 := n1_; have HB := n2_; clear n0_ n1_ n2_; (try clear hb); (try clear hb2); (try clear hk); (try clear hi)) | ((with_reducible refine gate_dst (N := 11) rfl ?_); (try (refine gate_guard (by rfl) ?_; dsimp only)); refine box_event ?hg (N := 11) ?hd (cs := #[.int .i64 0, .int .i64 0]) (t := 25) ?hr ?_; (case hd => rfl); (case hg => rfl); (case hr => first | (go_simp; done) | (go_simp; rfl)); intro gb243 hg w71 hbox hb; have n0_ := Aside0.mk (blk_below (g := gb237) (o := .cells #[.string a0_0, .int .i64 a0_1, .int .i64 a0_2, .int .i64 a0_3, .int .i64 a0_4, .int .i64 a0_5, .int .i64 a0_6, .int .i64 a0_7] 23 (0, 0)) (by (with_reducible repeat (first | refine blk_drewN ?_ _ | refine blk_drew ?_ | refine blk_alloc ?_ _)); exact BK237.out) hb); have n1_ := Aside0.mk (blk_below (g := gb238) (o := .cells #[.int .i64 a1_0, .int .i64 a1_1] 25 (0, 0)) (by (with_reducible repeat (first | refine blk_drewN ?_ _ | refine blk_drew ?_ | refine blk_alloc ?_ _)); exact BK238.out) hb); have n2_ := Aside0.mk (below_step (by repeat (first | (with_reducible first | exact HB.out | apply below_alloc | apply pw_below_drewN | apply below_drew1 | refine below_set ?_ GE237.out | refine below_set ?_ GE238.out) | exact HB.out)) hb); have n3_ := Aside0.mk (hbox); have n4_ := Aside0.mk ((by rw [hg]; exact (below_size (by repeat (first | (with_reducible first | exact HB.out | apply below_alloc | apply pw_below_drewN | apply below_drew1 | refine below_set ?_ GE237.out | refine below_set ?_ GE238.out) | exact HB.out))) : w.heap.size ≤ gb243)); have n5_ := Aside0.mk ((by rw [hg]; exact (below_size (by repeat (first | (with_reducible first | exact HB.out | apply below_alloc | apply pw_below_drewN | apply below_drew1 | refine below_set ?_ GE237.out | refine below_set ?_ GE238.out) | exact HB.out))) : w.heap.size ≤ gb243)); have n6_ := Aside0.mk ((by rw [hg]; exact Nat.ne_of_lt (blk_lt (g := gb237) (o := .cells #[.string a0_0, .int .i64 a0_1, .int .i64 a0_2, .int .i64 a0_3, .int .i64 a0_4, .int .i64 a0_5, .int .i64 a0_6, .int .i64 a0_7] 23 (0, 0)) (by (with_reducible repeat (first | refine blk_drewN ?_ _ | refine blk_drew ?_ | refine blk_alloc ?_ _)); exact BK237.out)) : gb237 ≠ gb243)); have n7_ := Aside0.mk ((by rw [hg]; exact Nat.ne_of_gt (blk_lt (g := gb237) (o := .cells #[.string a0_0, .int .i64 a0_1, .int .i64 a0_2, .int .i64 a0_3, .int .i64 a0_4, .int .i64 a0_5, .int .i64 a0_6, .int .i64 a0_7] 23 (0, 0)) (by (with_reducible repeat (first | refine blk_drewN ?_ _ | refine blk_drew ?_ | refine blk_alloc ?_ _)); exact BK237.out)) : gb243 ≠ gb237)); have n8_ := Aside0.mk ((by rw [hg]; exact Nat.ne_of_lt (blk_lt (g := gb238) (o := .cells #[.int .i64 a1_0, .int .i64 a1_1] 25 (0, 0)) (by (with_reducible repeat (first | refine blk_drewN ?_ _ | refine blk_drew ?_ | refine blk_alloc ?_ _)); exact BK238.out)) : gb238 ≠ gb243)); have n9_ := Aside0.mk ((by rw [hg]; exact Nat.ne_of_gt (blk_lt (g := gb238) (o := .cells #[.int .i64 a1_0, .int .i64 a1_1] 25 (0, 0)) (by (with_reducible repeat (first | refine blk_drewN ?_ _ | refine blk_drew ?_ | refine blk_alloc ?_ _)); exact BK238.out)) : gb243 ≠ gb238)); clear BK237; clear BK238; clear HB; have BK237 := n0_; have BK238 := n1_; have HB := n2_; have BK243 := n3_; have GW243 := n4_; have GE243 := n5_; have NB237_243 := n6_; have NB243_237 := n7_; have NB238_243 := n8_; have NB243_238 := n9_; clear n0_ n1_ n2_ n3_ n4_ n5_ n6_ n7_ n8_ n9_; clear hb hbox hg; have hnb72 := NB243_237.out; have hnc72 := NB237_243.out; have hnb73 := NB243_238.out; have hnc73 := NB238_243.out; have hcz74_0 : w71.cell? ⟨gb243, 0, none⟩ = some (.int .i64 0) := (blk_cell BK243.out 0).trans rfl; have hcz74_1 : w71.cell? ⟨gb243, 1, none⟩ = some (.int .i64 0) := (blk_cell BK243.out 1).trans rfl; have hfz74_0 := blk_frozen BK243.out 0; have hfz74_1 := blk_frozen BK243.out 1; have hcz75_0 : w71.cell? ⟨gb237, 0, none⟩ = some (.string a0_0) := (blk_cell BK237.out 0).trans rfl; have hcz75_1 : w71.cell? ⟨gb237, 1, none⟩ = some (.int .i64 a0_1) := (blk_cell BK237.out 1).trans rfl; have hcz75_2 : w71.cell? ⟨gb237, 2, none⟩ = some (.int .i64 a0_2) := (blk_cell BK237.out 2).trans rfl; have hcz75_3 : w71.cell? ⟨gb237, 3, none⟩ = some (.int .i64 a0_3) := (blk_cell BK237.out 3).trans rfl; have hcz75_4 : w71.cell? ⟨gb237, 4, none⟩ = some (.int .i64 a0_4) := (blk_cell BK237.out 4).trans rfl; have hcz75_5 : w71.cell? ⟨gb237, 5, none⟩ = some (.int .i64 a0_5) := (blk_cell BK237.out 5).trans rfl; have hcz75_6 : w71.cell? ⟨gb237, 6, none⟩ = some (.int .i64 a0_6) := (blk_cell BK237.out 6).trans rfl; have hcz75_7 : w71.cell? ⟨gb237, 7, none⟩ = some (.int .i64 a0_7) := (blk_cell BK237.out 7).trans rfl; have hfz75_0 := blk_frozen BK237.out 0; have hfz75_1 := blk_frozen BK237.out 1; have hfz75_2 := blk_frozen BK237.out 2; have hfz75_3 := blk_frozen BK237.out 3; have hfz75_4 := blk_frozen BK237.out 4; have hfz75_5 := blk_frozen BK237.out 5; have hfz75_6 := blk_frozen BK237.out 6; have hfz75_7 := blk_frozen BK237.out 7; have hcz76_0 : w71.cell? ⟨gb238, 0, none⟩ = some (.int .i64 a1_0) := (blk_cell BK238.out 0).trans rfl; have hcz76_1 : w71.cell? ⟨gb238, 1, none⟩ = some (.int .i64 a1_1) := (blk_cell BK238.out 1).trans rfl; have hfz76_0 := blk_frozen BK238.out 0; have hfz76_1 := blk_frozen BK238.out 1) | ((with_reducible refine gate_callee (f := 10) rfl ?_); refine goesL_ (some 56) rfl rfl Tryd.func10 (by kernel_rfl) rfl #[.agg #[.string a0_0, .int .i64 a0_1, .int .i64 a0_2, .int .i64 a0_3, .int .i64 a0_4, .int .i64 a0_5, .int .i64 a0_6, .int .i64 a0_7], .agg #[.int .i64 a1_0, .int .i64 a1_1], .int .i64 (wrap64 (a2 + a3))] rfl (by (try simp only [List.map_toArray, List.map_cons, List.map_nil]); first | done | rfl | (simp only [List.length_drop, List.length_take]; rfl)) ?_; (with_reducible refine (ramp_Next.calls a0_0 a0_1 a0_2 a0_3 a0_4 a0_5 a0_6 a0_7 a1_0 a1_1 (wrap64 (a2 + a3)) t244 t245 t246 _ (hG.below (by repeat (first | (with_reducible first | exact HB.out | apply below_alloc | apply pw_below_drewN | apply below_drew1) | exact HB.out | (refine Below.setCell ?_ (Aside0.out (by assumption)) _)))) A21.out).mono ?_); rintro e w77 ⟨rfl, hb⟩; refine ⟨_, rfl, ?_⟩; have n0_ := Aside0.mk (blk_below (g := gb237) (o := .cells #[.string a0_0, .int .i64 a0_1, .int .i64 a0_2, .int .i64 a0_3, .int .i64 a0_4, .int .i64 a0_5, .int .i64 a0_6, .int .i64 a0_7] 23 (0, 0)) (by (with_reducible repeat (first | refine blk_drewN ?_ _ | refine blk_drew ?_ | refine blk_alloc ?_ _)); refine blk_far ?_ NB237_243.out _; (with_reducible repeat (first | refine blk_drewN ?_ _ | refine blk_drew ?_ | refine blk_alloc ?_ _)); refine blk_far ?_ NB237_243.out _; (with_reducible repeat (first | refine blk_drewN ?_ _ | refine blk_drew ?_ | refine blk_alloc ?_ _)); exact BK237.out) hb); have n1_ := Aside0.mk (blk_below (g := gb238) (o := .cells #[.int .i64 a1_0, .int .i64 a1_1] 25 (0, 0)) (by (with_reducible repeat (first | refine blk_drewN ?_ _ | refine blk_drew ?_ | refine blk_alloc ?_ _)); refine blk_far ?_ NB238_243.out _; (with_reducible repeat (first | refine blk_drewN ?_ _ | refine blk_drew ?_ | refine blk_alloc ?_ _)); refine blk_far ?_ NB238_243.out _; (with_reducible repeat (first | refine blk_drewN ?_ _ | refine blk_drew ?_ | refine blk_alloc ?_ _)); exact BK238.out) hb); have n2_ := Aside0.mk (blk_below (g := gb243) (o := .cells #[.int .i64 t240, .int .i64 t241] 25 (0, 0)) (by (with_reducible repeat (first | refine blk_drewN ?_ _ | refine blk_drew ?_ | refine blk_alloc ?_ _)); refine blk_put (cs := #[.int .i64 t240, .int .i64 0]) ?_ 1 _ rfl; (with_reducible repeat (first | refine blk_drewN ?_ _ | refine blk_drew ?_ | refine blk_alloc ?_ _)); refine blk_put (cs := #[.int .i64 0, .int .i64 0]) ?_ 0 _ rfl; (with_reducible repeat (first | refine blk_drewN ?_ _ | refine blk_drew ?_ | refine blk_alloc ?_ _)); exact BK243.out) hb); have n3_ := Aside0.mk (below_step (by repeat (first | (with_reducible first | exact HB.out | apply below_alloc | apply pw_below_drewN | apply below_drew1 | refine below_set ?_ GE237.out | refine below_set ?_ GE238.out | refine below_set ?_ GE243.out) | exact HB.out)) hb); clear BK237; clear BK238; clear BK243; clear HB; have BK237 := n0_; have BK238 := n1_; have BK243 := n2_; have HB := n3_; clear n0_ n1_ n2_ n3_; (try clear hb); (try clear hb2); (try clear hk); (try clear hi)) | ((with_reducible refine gate_dst (N := 13) rfl ?_); (try (refine gate_guard (by rfl) ?_; dsimp only)); refine box_event ?hg (N := 13) ?hd (cs := #[.int .i64 0, .int .i64 0]) (t := 25) ?hr ?_; (case hd => rfl); (case hg => rfl); (case hr => first | (go_simp; done) | (go_simp; rfl)); intro gb247 hg w78 hbox hb; have n0_ := Aside0.mk (blk_below (g := gb237) (o := .cells #[.string a0_0, .int .i64 a0_1, .int .i64 a0_2, .int .i64 a0_3, .int .i64 a0_4, .int .i64 a0_5, .int .i64 a0_6, .int .i64 a0_7] 23 (0, 0)) (by (with_reducible repeat (first | refine blk_drewN ?_ _ | refine blk_drew ?_ | refine blk_alloc ?_ _)); exact BK237.out) hb); have n1_ := Aside0.mk (blk_below (g := gb238) (o := .cells #[.int .i64 a1_0, .int .i64 a1_1] 25 (0, 0)) (by (with_reducible repeat (first | refine blk_drewN ?_ _ | refine blk_drew ?_ | refine blk_alloc ?_ _)); exact BK238.out) hb); have n2_ := Aside0.mk (blk_below (g := gb243) (o := .cells #[.int .i64 t240, .int .i64 t241] 25 (0, 0)) (by (with_reducible repeat (first | refine blk_drewN ?_ _ | refine blk_drew ?_ | refine blk_alloc ?_ _)); exact BK243.out) hb); have n3_ := Aside0.mk (below_step (by repeat (first | (with_reducible first | exact HB.out | apply below_alloc | apply pw_below_drewN | apply below_drew1 | refine below_set ?_ GE237.out | refine below_set ?_ GE238.out | refine below_set ?_ GE243.out) | exact HB.out)) hb); have n4_ := Aside0.mk (hbox); have n5_ := Aside0.mk ((by rw [hg]; exact (below_size (by repeat (first | (with_reducible first | exact HB.out | apply below_alloc | apply pw_below_drewN | apply below_drew1 | refine below_set ?_ GE237.out | refine below_set ?_ GE238.out | refine below_set ?_ GE243.out) | exact HB.out))) : w.heap.size ≤ gb247)); have n6_ := Aside0.mk ((by rw [hg]; exact (below_size (by repeat (first | (with_reducible first | exact HB.out | apply below_alloc | apply pw_below_drewN | apply below_drew1 | refine below_set ?_ GE237.out | refine below_set ?_ GE238.out | refine below_set ?_ GE243.out) | exact HB.out))) : w.heap.size ≤ gb247)); have n7_ := Aside0.mk ((by rw [hg]; exact Nat.ne_of_lt (blk_lt (g := gb237) (o := .cells #[.string a0_0, .int .i64 a0_1, .int .i64 a0_2, .int .i64 a0_3, .int .i64 a0_4, .int .i64 a0_5, .int .i64 a0_6, .int .i64 a0_7] 23 (0, 0)) (by (with_reducible repeat (first | refine blk_drewN ?_ _ | refine blk_drew ?_ | refine blk_alloc ?_ _)); exact BK237.out)) : gb237 ≠ gb247)); have n8_ := Aside0.mk ((by rw [hg]; exact Nat.ne_of_gt (blk_lt (g := gb237) (o := .cells #[.string a0_0, .int .i64 a0_1, .int .i64 a0_2, .int .i64 a0_3, .int .i64 a0_4, .int .i64 a0_5, .int .i64 a0_6, .int .i64 a0_7] 23 (0, 0)) (by (with_reducible repeat (first | refine blk_drewN ?_ _ | refine blk_drew ?_ | refine blk_alloc ?_ _)); exact BK237.out)) : gb247 ≠ gb237)); have n9_ := Aside0.mk ((by rw [hg]; exact Nat.ne_of_lt (blk_lt (g := gb238) (o := .cells #[.int .i64 a1_0, .int .i64 a1_1] 25 (0, 0)) (by (with_reducible repeat (first | refine blk_drewN ?_ _ | refine blk_drew ?_ | refine blk_alloc ?_ _)); exact BK238.out)) : gb238 ≠ gb247)); have n10_ := Aside0.mk ((by rw [hg]; exact Nat.ne_of_gt (blk_lt (g := gb238) (o := .cells #[.int .i64 a1_0, .int .i64 a1_1] 25 (0, 0)) (by (with_reducible repeat (first | refine blk_drewN ?_ _ | refine blk_drew ?_ | refine blk_alloc ?_ _)); exact BK238.out)) : gb247 ≠ gb238)); have n11_ := Aside0.mk ((by rw [hg]; exact Nat.ne_of_lt (blk_lt (g := gb243) (o := .cells #[.int .i64 t240, .int .i64 t241] 25 (0, 0)) (by (with_reducible repeat (first | refine blk_drewN ?_ _ | refine blk_drew ?_ | refine blk_alloc ?_ _)); exact BK243.out)) : gb243 ≠ gb247)); have n12_ := Aside0.mk ((by rw [hg]; exact Nat.ne_of_gt (blk_lt (g := gb243) (o := .cells #[.int .i64 t240, .int .i64 t241] 25 (0, 0)) (by (with_reducible repeat (first | refine blk_drewN ?_ _ | refine blk_drew ?_ | refine blk_alloc ?_ _)); exact BK243.out)) : gb247 ≠ gb243)); clear BK237; clear BK238; clear BK243; clear HB; have BK237 := n0_; have BK238 := n1_; have BK243 := n2_; have HB := n3_; have BK247 := n4_; have GW247 := n5_; have GE247 := n6_; have NB237_247 := n7_; have NB247_237 := n8_; have NB238_247 := n9_; have NB247_238 := n10_; have NB243_247 := n11_; have NB247_243 := n12_; clear n0_ n1_ n2_ n3_ n4_ n5_ n6_ n7_ n8_ n9_ n10_ n11_ n12_; clear hb hbox hg; have hnb79 := NB247_237.out; have hnc79 := NB237_247.out; have hnb80 := NB247_238.out; have hnc80 := NB238_247.out; have hnb81 := NB247_243.out; have hnc81 := NB243_247.out; have hcz82_0 : w78.cell? ⟨gb247, 0, none⟩ = some (.int .i64 0) := (blk_cell BK247.out 0).trans rfl; have hcz82_1 : w78.cell? ⟨gb247, 1, none⟩ = some (.int .i64 0) := (blk_cell BK247.out 1).trans rfl; have hfz82_0 := blk_frozen BK247.out 0; have hfz82_1 := blk_frozen BK247.out 1))
                        have n0_ : Aside0 (((w78.setCell ⟨gb247, 0, none⟩ (.int .i64 t244)).setCell ⟨gb247, 1, none⟩ (.int .i64 t245)).heap[gb237]? = some (.cells #[.string a0_0, .int .i64 a0_1, .int .i64 a0_2, .int .i64 a0_3, .int .i64 a0_4, .int .i64 a0_5, .int .i64 a0_6, .int .i64 a0_7] 23 (0, 0))) := ⟨by (with_reducible repeat (first | refine blk_drewN ?_ _ | refine blk_drew ?_ | refine blk_alloc ?_ _)); refine blk_far ?_ NB237_247.out _; (with_reducible repeat (first | refine blk_drewN ?_ _ | refine blk_drew ?_ | refine blk_alloc ?_ _)); refine blk_far ?_ NB237_247.out _; (with_reducible repeat (first | refine blk_drewN ?_ _ | refine blk_drew ?_ | refine blk_alloc ?_ _)); exact BK237.out⟩
                        have n1_ : Aside0 (((w78.setCell ⟨gb247, 0, none⟩ (.int .i64 t244)).setCell ⟨gb247, 1, none⟩ (.int .i64 t245)).heap[gb238]? = some (.cells #[.int .i64 a1_0, .int .i64 a1_1] 25 (0, 0))) := ⟨by (with_reducible repeat (first | refine blk_drewN ?_ _ | refine blk_drew ?_ | refine blk_alloc ?_ _)); refine blk_far ?_ NB238_247.out _; (with_reducible repeat (first | refine blk_drewN ?_ _ | refine blk_drew ?_ | refine blk_alloc ?_ _)); refine blk_far ?_ NB238_247.out _; (with_reducible repeat (first | refine blk_drewN ?_ _ | refine blk_drew ?_ | refine blk_alloc ?_ _)); exact BK238.out⟩
                        have n2_ : Aside0 (((w78.setCell ⟨gb247, 0, none⟩ (.int .i64 t244)).setCell ⟨gb247, 1, none⟩ (.int .i64 t245)).heap[gb243]? = some (.cells #[.int .i64 t240, .int .i64 t241] 25 (0, 0))) := ⟨by (with_reducible repeat (first | refine blk_drewN ?_ _ | refine blk_drew ?_ | refine blk_alloc ?_ _)); refine blk_far ?_ NB243_247.out _; (with_reducible repeat (first | refine blk_drewN ?_ _ | refine blk_drew ?_ | refine blk_alloc ?_ _)); refine blk_far ?_ NB243_247.out _; (with_reducible repeat (first | refine blk_drewN ?_ _ | refine blk_drew ?_ | refine blk_alloc ?_ _)); exact BK243.out⟩
                        have n3_ : Aside0 (((w78.setCell ⟨gb247, 0, none⟩ (.int .i64 t244)).setCell ⟨gb247, 1, none⟩ (.int .i64 t245)).heap[gb247]? = some (.cells #[.int .i64 t244, .int .i64 t245] 25 (0, 0))) := ⟨by (with_reducible repeat (first | refine blk_drewN ?_ _ | refine blk_drew ?_ | refine blk_alloc ?_ _)); refine blk_put (cs := #[.int .i64 t244, .int .i64 0]) ?_ 1 _ rfl; (with_reducible repeat (first | refine blk_drewN ?_ _ | refine blk_drew ?_ | refine blk_alloc ?_ _)); refine blk_put (cs := #[.int .i64 0, .int .i64 0]) ?_ 0 _ rfl; (with_reducible repeat (first | refine blk_drewN ?_ _ | refine blk_drew ?_ | refine blk_alloc ?_ _)); exact BK247.out⟩
                        have n4_ : Aside0 (Below w.heap.size w ((w78.setCell ⟨gb247, 0, none⟩ (.int .i64 t244)).setCell ⟨gb247, 1, none⟩ (.int .i64 t245))) := ⟨by repeat (first | (with_reducible first | exact HB.out | apply below_alloc | apply pw_below_drewN | apply below_drew1 | refine below_set ?_ GE237.out | refine below_set ?_ GE238.out | refine below_set ?_ GE243.out | refine below_set ?_ GE247.out) | exact HB.out)⟩
                        (try clear BK237)
                        (try clear BK238)
                        (try clear BK243)
                        (try clear BK247)
                        (try clear HB)
                        generalize ((w78.setCell ⟨gb247, 0, none⟩ (.int .i64 t244)).setCell ⟨gb247, 1, none⟩ (.int .i64 t245)) = w83 at n0_ n1_ n2_ n3_ n4_ ⊢
                        have BK237 := n0_
                        have BK238 := n1_
                        have BK243 := n2_
                        have BK247 := n3_
                        have HB := n4_
                        clear n0_ n1_ n2_ n3_ n4_
                        have n0_ := Aside0.mk (blk_drew BK237.out)
                        have n1_ := Aside0.mk (blk_drew BK238.out)
                        have n2_ := Aside0.mk (blk_drew BK243.out)
                        have n3_ := Aside0.mk (blk_drew BK247.out)
                        have n4_ := Aside0.mk (below_drew1 HB.out)
                        clear BK237
                        clear BK238
                        clear BK243
                        clear BK247
                        clear HB
                        have BK237 := n0_
                        have BK238 := n1_
                        have BK243 := n2_
                        have BK247 := n3_
                        have HB := n4_
                        clear n0_ n1_ n2_ n3_ n4_
                        refine start_ (n := 17) (S := fun w' => w'.cell? ⟨gb237, 0, none⟩ = some (.string a0_0) ∧ w'.cell? ⟨gb237, 1, none⟩ = some (.int .i64 a0_1) ∧ w'.cell? ⟨gb237, 2, none⟩ = some (.int .i64 a0_2) ∧ w'.cell? ⟨gb237, 3, none⟩ = some (.int .i64 a0_3) ∧ w'.cell? ⟨gb237, 4, none⟩ = some (.int .i64 a0_4) ∧ w'.cell? ⟨gb237, 5, none⟩ = some (.int .i64 a0_5) ∧ w'.cell? ⟨gb237, 6, none⟩ = some (.int .i64 a0_6) ∧ w'.cell? ⟨gb237, 7, none⟩ = some (.int .i64 a0_7) ∧ w'.cell? ⟨gb238, 0, none⟩ = some (.int .i64 a1_0) ∧ w'.cell? ⟨gb238, 1, none⟩ = some (.int .i64 a1_1)) (ds := []) #[false, false, false, false, false, false, false, false, false, false, false, false, false, false, false, false, false] (by kernel_rfl) rfl rfl ⟨(blk_cell BK237.out 0).trans rfl, (blk_cell BK237.out 1).trans rfl, (blk_cell BK237.out 2).trans rfl, (blk_cell BK237.out 3).trans rfl, (blk_cell BK237.out 4).trans rfl, (blk_cell BK237.out 5).trans rfl, (blk_cell BK237.out 6).trans rfl, (blk_cell BK237.out 7).trans rfl, (blk_cell BK238.out 0).trans rfl, (blk_cell BK238.out 1).trans rfl⟩ (fun hHeld => ?_); refine with_tabW chargeparklaw24_RampOrder.tab7 chargeparklaw24_RampOrder.bits7 (fun HT_ HW_ => ?_)
                        generalize w83.drew = w84 at BK237 BK238 BK243 BK247 HB hHeld ⊢
                        refine pure_ (i := 2) (N := some 62) (v := ?_) (a' := ?_) #[false, false, true, false, false, false, false, false, false, false, false, false, false, false, false, false, false] rfl rfl (any_of HT_.out (by kernel_rfl)) (fun _ _ _ h => h) (Or.inl ⟨by rfl, ?_⟩) ?_ ?_
                        rotate_left
                        · intro w'
                          go_simp
                          with_reducible rfl
                        rotate_left
                        · simp only [Act.put, List.setIfInBounds_toArray, List.set_cons_zero, List.set_cons_succ, i64_w, i32_w]
                          rfl
                        refine pure_ (i := 4) (N := some 64) (v := ?_) (a' := ?_) #[false, false, true, false, true, false, false, false, false, false, false, false, false, false, false, false, false] rfl rfl (any_of HT_.out (by kernel_rfl)) (fun _ _ _ h => h) (Or.inl ⟨by rfl, ?_⟩) ?_ ?_
                        rotate_left
                        · intro w'
                          go_simp
                          with_reducible rfl
                        rotate_left
                        · simp only [Act.put, List.setIfInBounds_toArray, List.set_cons_zero, List.set_cons_succ, i64_w, i32_w]
                          rfl
                        refine pure_ (i := 5) (N := some 65) (v := ?_) (a' := ?_) #[false, false, true, false, true, true, false, false, false, false, false, false, false, false, false, false, false] rfl rfl (any_of HT_.out (by kernel_rfl)) (fun _ _ _ h => h) (Or.inl ⟨by rfl, ?_⟩) ?_ ?_
                        rotate_left
                        · intro w'
                          go_simp
                          with_reducible rfl
                        rotate_left
                        · simp only [Act.put, List.setIfInBounds_toArray, List.set_cons_zero, List.set_cons_succ, i64_w, i32_w]
                          rfl
                        refine take_ (i := 0) (N := some 60) (v := ?_) (a' := ?_) #[true, false, true, false, true, true, false, false, false, false, false, false, false, false, false, false, false] rfl rfl (take_ofW HT_.out HW_.out (by kernel_rfl)) (fun _ _ _ h => h) (Or.inl ⟨by rfl, ?_⟩) hHeld ?_ ?_
                        rotate_left
                        · rintro w' ⟨s0, s1, s2, s3, s4, s5, s6, s7, s8, s9⟩
                          go_simp
                          with_reducible rfl
                        rotate_left
                        · simp only [Act.put, List.setIfInBounds_toArray, List.set_cons_zero, List.set_cons_succ, i64_w, i32_w]
                          rfl
                        refine take_ (i := 1) (N := some 61) (v := ?_) (a' := ?_) #[true, true, true, false, true, true, false, false, false, false, false, false, false, false, false, false, false] rfl rfl (take_ofW HT_.out HW_.out (by kernel_rfl)) (fun _ _ _ h => h) (Or.inl ⟨by rfl, ?_⟩) hHeld ?_ ?_
                        rotate_left
                        · rintro w' ⟨s0, s1, s2, s3, s4, s5, s6, s7, s8, s9⟩
                          go_simp
                          with_reducible rfl
                        rotate_left
                        · simp only [Act.put, List.setIfInBounds_toArray, List.set_cons_zero, List.set_cons_succ, i64_w, i32_w]
                          rfl
                        refine take_ (i := 3) (N := some 63) (v := ?_) (a' := ?_) #[true, true, true, true, true, true, false, false, false, false, false, false, false, false, false, false, false] rfl rfl (take_ofW HT_.out HW_.out (by kernel_rfl)) (fun _ _ _ h => h) (Or.inl ⟨by rfl, ?_⟩) hHeld ?_ ?_
                        rotate_left
                        · rintro w' ⟨s0, s1, s2, s3, s4, s5, s6, s7, s8, s9⟩
                          go_simp
                          with_reducible rfl
                        rotate_left
                        · simp only [Act.put, List.setIfInBounds_toArray, List.set_cons_zero, List.set_cons_succ, i64_w, i32_w]
                          rfl
                        refine take_ (i := 6) (N := some 66) (v := ?_) (a' := ?_) #[true, true, true, true, true, true, true, false, false, false, false, false, false, false, false, false, false] rfl rfl (take_ofW HT_.out HW_.out (by kernel_rfl)) (fun _ _ _ h => h) (Or.inl ⟨by rfl, ?_⟩) hHeld ?_ ?_
                        rotate_left
                        · rintro w' ⟨s0, s1, s2, s3, s4, s5, s6, s7, s8, s9⟩
                          go_simp
                          with_reducible rfl
                        rotate_left
                        · simp only [Act.put, List.setIfInBounds_toArray, List.set_cons_zero, List.set_cons_succ, i64_w, i32_w]
                          rfl
                        refine pure_ (i := 7) (N := some 67) (v := ?_) (a' := ?_) #[true, true, true, true, true, true, true, true, false, false, false, false, false, false, false, false, false] rfl rfl (any_of HT_.out (by kernel_rfl)) (fun _ _ _ h => h) (Or.inl ⟨by rfl, ?_⟩) ?_ ?_
                        rotate_left
                        · intro w'
                          go_simp
                          with_reducible rfl
                        rotate_left
                        · simp only [Act.put, List.setIfInBounds_toArray, List.set_cons_zero, List.set_cons_succ, i64_w, i32_w]
                          rfl
                        refine pure_ (i := 8) (N := some 68) (v := ?_) (a' := ?_) #[true, true, true, true, true, true, true, true, true, false, false, false, false, false, false, false, false] rfl rfl (any_of HT_.out (by kernel_rfl)) (fun _ _ _ h => h) (Or.inl ⟨by rfl, ?_⟩) ?_ ?_
                        rotate_left
                        · intro w'
                          go_simp
                          with_reducible rfl
                        rotate_left
                        · simp only [Act.put, List.setIfInBounds_toArray, List.set_cons_zero, List.set_cons_succ, i64_w, i32_w]
                          rfl
                        refine pure_ (i := 9) (N := some 69) (v := ?_) (a' := ?_) #[true, true, true, true, true, true, true, true, true, true, false, false, false, false, false, false, false] rfl rfl (any_of HT_.out (by kernel_rfl)) (fun _ _ _ h => h) (Or.inl ⟨by rfl, ?_⟩) ?_ ?_
                        rotate_left
                        · intro w'
                          go_simp
                          with_reducible rfl
                        rotate_left
                        · simp only [Act.put, List.setIfInBounds_toArray, List.set_cons_zero, List.set_cons_succ, i64_w, i32_w]
                          rfl
                        refine join_ (σ := Nat) 2 #[true, true, true, true, true, true, true, true, true, true, true, true, true, true, true, false, false] (fun s_ => [(70, .tuple #[.agg #[.int .i64 t248, .int .i64 t249], .int .i64 t250]), (15, .pointer (some ⟨s_, 0, none⟩)), (59, .tuple #[.agg #[.int .i64 t248, .int .i64 t249], .int .i64 t250]), (71, .agg #[.int .i64 t248, .int .i64 t249]), (72, .int .i64 t250)]) (fun s_ w' => (w'.cell? ⟨gb237, 0, none⟩ = some (.string a0_0) ∧ w'.cell? ⟨gb237, 1, none⟩ = some (.int .i64 a0_1) ∧ w'.cell? ⟨gb237, 2, none⟩ = some (.int .i64 a0_2) ∧ w'.cell? ⟨gb237, 3, none⟩ = some (.int .i64 a0_3) ∧ w'.cell? ⟨gb237, 4, none⟩ = some (.int .i64 a0_4) ∧ w'.cell? ⟨gb237, 5, none⟩ = some (.int .i64 a0_5) ∧ w'.cell? ⟨gb237, 6, none⟩ = some (.int .i64 a0_6) ∧ w'.cell? ⟨gb237, 7, none⟩ = some (.int .i64 a0_7) ∧ w'.cell? ⟨gb238, 0, none⟩ = some (.int .i64 a1_0) ∧ w'.cell? ⟨gb238, 1, none⟩ = some (.int .i64 a1_1)) ∧ (w'.heap[gb237]? = some (.cells #[.string a0_0, .int .i64 a0_1, .int .i64 a0_2, .int .i64 a0_3, .int .i64 a0_4, .int .i64 a0_5, .int .i64 a0_6, .int .i64 a0_7] 23 (0, 0))) ∧ (w'.heap[gb238]? = some (.cells #[.int .i64 a1_0, .int .i64 a1_1] 25 (0, 0))) ∧ (w'.heap[gb243]? = some (.cells #[.int .i64 t240, .int .i64 t241] 25 (0, 0))) ∧ (w'.heap[gb247]? = some (.cells #[.int .i64 t244, .int .i64 t245] 25 (0, 0))) ∧ (w'.heap[s_]? = some (.cells #[.int .i64 0, .int .i64 0] 25 (0, 0))) ∧ (w.heap.size ≤ s_) ∧ (w.heap.size ≤ s_) ∧ (gb237 ≠ s_) ∧ (s_ ≠ gb237) ∧ (gb238 ≠ s_) ∧ (s_ ≠ gb238) ∧ (gb243 ≠ s_) ∧ (s_ ≠ gb243) ∧ (gb247 ≠ s_) ∧ (s_ ≠ gb247) ∧ (Below w.heap.size w w')) ?_ ?_
                        rotate_left
                        · intro hCont
                          refine two_ (i := 10) (j := 14) (Ni := some 70) (Nj := some 15) #[true, true, true, true, true, true, true, true, true, true, true, false, false, false, false, false, false] #[true, true, true, true, true, true, true, true, true, true, false, false, false, false, true, false, false] rfl rfl rfl rfl (two_of HT_.out (by kernel_rfl)) (by decide) (by decide) (fun K hK => ?_) (fun K hK => ?_)
                          · skip
                            refine goes_ Tryd.func10 (by kernel_rfl) rfl #[.agg #[.string a0_0, .int .i64 a0_1, .int .i64 a0_2, .int .i64 a0_3, .int .i64 a0_4, .int .i64 a0_5, .int .i64 a0_6, .int .i64 a0_7], .agg #[.int .i64 a1_0, .int .i64 a1_1], .int .i64 ji23] (by rfl) rfl rfl (by (try simp only [List.map_toArray, List.map_cons, List.map_nil]); first | done | (simp only [hji23]; rfl) | rfl | (simp only [List.length_drop, List.length_take]; rfl)) ?_
                            with_reducible refine (ramp_Next.calls a0_0 a0_1 a0_2 a0_3 a0_4 a0_5 a0_6 a0_7 a1_0 a1_1 ji23 t248 t249 t250 _ (hG.below (by repeat (first | (with_reducible first | exact HB.out | apply below_alloc | apply pw_below_drewN | apply below_drew1) | exact HB.out | (refine Below.setCell ?_ (Aside0.out (by assumption)) _)))) A24.out).mono ?_
                            rintro e w85 ⟨rfl, hb⟩
                            refine ⟨_, rfl, ?_⟩
                            have n0_ := Aside0.mk (blk_below (g := gb237) (o := .cells #[.string a0_0, .int .i64 a0_1, .int .i64 a0_2, .int .i64 a0_3, .int .i64 a0_4, .int .i64 a0_5, .int .i64 a0_6, .int .i64 a0_7] 23 (0, 0)) (by (with_reducible repeat (first | refine blk_drewN ?_ _ | refine blk_drew ?_ | refine blk_alloc ?_ _)); exact BK237.out) hb)
                            have n1_ := Aside0.mk (blk_below (g := gb238) (o := .cells #[.int .i64 a1_0, .int .i64 a1_1] 25 (0, 0)) (by (with_reducible repeat (first | refine blk_drewN ?_ _ | refine blk_drew ?_ | refine blk_alloc ?_ _)); exact BK238.out) hb)
                            have n2_ := Aside0.mk (blk_below (g := gb243) (o := .cells #[.int .i64 t240, .int .i64 t241] 25 (0, 0)) (by (with_reducible repeat (first | refine blk_drewN ?_ _ | refine blk_drew ?_ | refine blk_alloc ?_ _)); exact BK243.out) hb)
                            have n3_ := Aside0.mk (blk_below (g := gb247) (o := .cells #[.int .i64 t244, .int .i64 t245] 25 (0, 0)) (by (with_reducible repeat (first | refine blk_drewN ?_ _ | refine blk_drew ?_ | refine blk_alloc ?_ _)); exact BK247.out) hb)
                            have n4_ := Aside0.mk (below_step (by repeat (first | (with_reducible first | exact HB.out | apply below_alloc | apply pw_below_drewN | apply below_drew1 | refine below_set ?_ GE237.out | refine below_set ?_ GE238.out | refine below_set ?_ GE243.out | refine below_set ?_ GE247.out) | exact HB.out)) hb)
                            clear BK237
                            clear BK238
                            clear BK243
                            clear BK247
                            clear HB
                            have BK237 := n0_
                            have BK238 := n1_
                            have BK243 := n2_
                            have BK247 := n3_
                            have HB := n4_
                            clear n0_ n1_ n2_ n3_ n4_
                            (try clear hb)
                            (try clear hb2)
                            (try clear hk)
                            (try clear hi)
                            refine hK.out _ _ ⟨(blk_cell BK237.out 0).trans rfl, (blk_cell BK237.out 1).trans rfl, (blk_cell BK237.out 2).trans rfl, (blk_cell BK237.out 3).trans rfl, (blk_cell BK237.out 4).trans rfl, (blk_cell BK237.out 5).trans rfl, (blk_cell BK237.out 6).trans rfl, (blk_cell BK237.out 7).trans rfl, (blk_cell BK238.out 0).trans rfl, (blk_cell BK238.out 1).trans rfl⟩ (fun hHeld => ?_)
                            clear hK K
                            refine norm_ (a' := ?_) ?_ ?_
                            rotate_left
                            · show Act.put _ (some 70) _ = _
                              simp only [Act.put, List.setIfInBounds_toArray, List.set_cons_zero, List.set_cons_succ, i64_w, i32_w]
                              rfl
                            refine pure_ (i := 11) (N := some 59) (v := ?_) (a' := ?_) #[true, true, true, true, true, true, true, true, true, true, true, true, false, false, false, false, false] rfl rfl (any_of HT_.out (by kernel_rfl)) (fun _ _ _ h => h) (Or.inl ⟨by rfl, ?_⟩) ?_ ?_
                            rotate_left
                            · intro w'
                              go_simp
                              with_reducible rfl
                            rotate_left
                            · simp only [Act.put, List.setIfInBounds_toArray, List.set_cons_zero, List.set_cons_succ, i64_w, i32_w]
                              rfl
                            refine pure_ (i := 12) (N := some 71) (v := ?_) (a' := ?_) #[true, true, true, true, true, true, true, true, true, true, true, true, true, false, false, false, false] rfl rfl (any_of HT_.out (by kernel_rfl)) (fun _ _ _ h => h) (Or.inl ⟨by rfl, ?_⟩) ?_ ?_
                            rotate_left
                            · intro w'
                              go_simp
                              with_reducible rfl
                            rotate_left
                            · simp only [Act.put, List.setIfInBounds_toArray, List.set_cons_zero, List.set_cons_succ, i64_w, i32_w]
                              rfl
                            refine pure_ (i := 13) (N := some 72) (v := ?_) (a' := ?_) #[true, true, true, true, true, true, true, true, true, true, true, true, true, true, false, false, false] rfl rfl (any_of HT_.out (by kernel_rfl)) (fun _ _ _ h => h) (Or.inl ⟨by rfl, ?_⟩) ?_ ?_
                            rotate_left
                            · intro w'
                              go_simp
                              with_reducible rfl
                            rotate_left
                            · simp only [Act.put, List.setIfInBounds_toArray, List.set_cons_zero, List.set_cons_succ, i64_w, i32_w]
                              rfl
                            refine one_ (i := 14) (N := some 15) #[true, true, true, true, true, true, true, true, true, true, true, true, true, true, true, false, false] rfl rfl (one_of HT_.out (by kernel_rfl)) (by decide) (fun K hK => ?_)
                            refine box_step ?hg (N := 15) ?hd (cs := #[.int .i64 0, .int .i64 0]) (t := 25) ?hr ?_; (case hd => rfl); (case hg => rfl); (case hr => first | (go_simp; done) | (go_simp; rfl))
                            intro gb251 hg w86 hbox hb
                            have n0_ := Aside0.mk (blk_below (g := gb237) (o := .cells #[.string a0_0, .int .i64 a0_1, .int .i64 a0_2, .int .i64 a0_3, .int .i64 a0_4, .int .i64 a0_5, .int .i64 a0_6, .int .i64 a0_7] 23 (0, 0)) (by (with_reducible repeat (first | refine blk_drewN ?_ _ | refine blk_drew ?_ | refine blk_alloc ?_ _)); exact BK237.out) hb)
                            have n1_ := Aside0.mk (blk_below (g := gb238) (o := .cells #[.int .i64 a1_0, .int .i64 a1_1] 25 (0, 0)) (by (with_reducible repeat (first | refine blk_drewN ?_ _ | refine blk_drew ?_ | refine blk_alloc ?_ _)); exact BK238.out) hb)
                            have n2_ := Aside0.mk (blk_below (g := gb243) (o := .cells #[.int .i64 t240, .int .i64 t241] 25 (0, 0)) (by (with_reducible repeat (first | refine blk_drewN ?_ _ | refine blk_drew ?_ | refine blk_alloc ?_ _)); exact BK243.out) hb)
                            have n3_ := Aside0.mk (blk_below (g := gb247) (o := .cells #[.int .i64 t244, .int .i64 t245] 25 (0, 0)) (by (with_reducible repeat (first | refine blk_drewN ?_ _ | refine blk_drew ?_ | refine blk_alloc ?_ _)); exact BK247.out) hb)
                            have n4_ := Aside0.mk (below_step (by repeat (first | (with_reducible first | exact HB.out | apply below_alloc | apply pw_below_drewN | apply below_drew1 | refine below_set ?_ GE237.out | refine below_set ?_ GE238.out | refine below_set ?_ GE243.out | refine below_set ?_ GE247.out) | exact HB.out)) hb)
                            have n5_ := Aside0.mk (hbox)
                            have n6_ := Aside0.mk ((by rw [hg]; exact (below_size (by repeat (first | (with_reducible first | exact HB.out | apply below_alloc | apply pw_below_drewN | apply below_drew1 | refine below_set ?_ GE237.out | refine below_set ?_ GE238.out | refine below_set ?_ GE243.out | refine below_set ?_ GE247.out) | exact HB.out))) : w.heap.size ≤ gb251))
                            have n7_ := Aside0.mk ((by rw [hg]; exact (below_size (by repeat (first | (with_reducible first | exact HB.out | apply below_alloc | apply pw_below_drewN | apply below_drew1 | refine below_set ?_ GE237.out | refine below_set ?_ GE238.out | refine below_set ?_ GE243.out | refine below_set ?_ GE247.out) | exact HB.out))) : w.heap.size ≤ gb251))
                            have n8_ := Aside0.mk ((by rw [hg]; exact Nat.ne_of_lt (blk_lt (g := gb237) (o := .cells #[.string a0_0, .int .i64 a0_1, .int .i64 a0_2, .int .i64 a0_3, .int .i64 a0_4, .int .i64 a0_5, .int .i64 a0_6, .int .i64 a0_7] 23 (0, 0)) (by (with_reducible repeat (first | refine blk_drewN ?_ _ | refine blk_drew ?_ | refine blk_alloc ?_ _)); exact BK237.out)) : gb237 ≠ gb251))
                            have n9_ := Aside0.mk ((by rw [hg]; exact Nat.ne_of_gt (blk_lt (g := gb237) (o := .cells #[.string a0_0, .int .i64 a0_1, .int .i64 a0_2, .int .i64 a0_3, .int .i64 a0_4, .int .i64 a0_5, .int .i64 a0_6, .int .i64 a0_7] 23 (0, 0)) (by (with_reducible repeat (first | refine blk_drewN ?_ _ | refine blk_drew ?_ | refine blk_alloc ?_ _)); exact BK237.out)) : gb251 ≠ gb237))
                            have n10_ := Aside0.mk ((by rw [hg]; exact Nat.ne_of_lt (blk_lt (g := gb238) (o := .cells #[.int .i64 a1_0, .int .i64 a1_1] 25 (0, 0)) (by (with_reducible repeat (first | refine blk_drewN ?_ _ | refine blk_drew ?_ | refine blk_alloc ?_ _)); exact BK238.out)) : gb238 ≠ gb251))
                            have n11_ := Aside0.mk ((by rw [hg]; exact Nat.ne_of_gt (blk_lt (g := gb238) (o := .cells #[.int .i64 a1_0, .int .i64 a1_1] 25 (0, 0)) (by (with_reducible repeat (first | refine blk_drewN ?_ _ | refine blk_drew ?_ | refine blk_alloc ?_ _)); exact BK238.out)) : gb251 ≠ gb238))
                            have n12_ := Aside0.mk ((by rw [hg]; exact Nat.ne_of_lt (blk_lt (g := gb243) (o := .cells #[.int .i64 t240, .int .i64 t241] 25 (0, 0)) (by (with_reducible repeat (first | refine blk_drewN ?_ _ | refine blk_drew ?_ | refine blk_alloc ?_ _)); exact BK243.out)) : gb243 ≠ gb251))
                            have n13_ := Aside0.mk ((by rw [hg]; exact Nat.ne_of_gt (blk_lt (g := gb243) (o := .cells #[.int .i64 t240, .int .i64 t241] 25 (0, 0)) (by (with_reducible repeat (first | refine blk_drewN ?_ _ | refine blk_drew ?_ | refine blk_alloc ?_ _)); exact BK243.out)) : gb251 ≠ gb243))
                            have n14_ := Aside0.mk ((by rw [hg]; exact Nat.ne_of_lt (blk_lt (g := gb247) (o := .cells #[.int .i64 t244, .int .i64 t245] 25 (0, 0)) (by (with_reducible repeat (first | refine blk_drewN ?_ _ | refine blk_drew ?_ | refine blk_alloc ?_ _)); exact BK247.out)) : gb247 ≠ gb251))
                            have n15_ := Aside0.mk ((by rw [hg]; exact Nat.ne_of_gt (blk_lt (g := gb247) (o := .cells #[.int .i64 t244, .int .i64 t245] 25 (0, 0)) (by (with_reducible repeat (first | refine blk_drewN ?_ _ | refine blk_drew ?_ | refine blk_alloc ?_ _)); exact BK247.out)) : gb251 ≠ gb247))
                            clear BK237
                            clear BK238
                            clear BK243
                            clear BK247
                            clear HB
                            have BK237 := n0_
                            have BK238 := n1_
                            have BK243 := n2_
                            have BK247 := n3_
                            have HB := n4_
                            have BK251 := n5_
                            have GW251 := n6_
                            have GE251 := n7_
                            have NB237_251 := n8_
                            have NB251_237 := n9_
                            have NB238_251 := n10_
                            have NB251_238 := n11_
                            have NB243_251 := n12_
                            have NB251_243 := n13_
                            have NB247_251 := n14_
                            have NB251_247 := n15_
                            clear n0_ n1_ n2_ n3_ n4_ n5_ n6_ n7_ n8_ n9_ n10_ n11_ n12_ n13_ n14_ n15_
                            clear hb hbox hg
                            refine hK.out _ _ ⟨(blk_cell BK237.out 0).trans rfl, (blk_cell BK237.out 1).trans rfl, (blk_cell BK237.out 2).trans rfl, (blk_cell BK237.out 3).trans rfl, (blk_cell BK237.out 4).trans rfl, (blk_cell BK237.out 5).trans rfl, (blk_cell BK237.out 6).trans rfl, (blk_cell BK237.out 7).trans rfl, (blk_cell BK238.out 0).trans rfl, (blk_cell BK238.out 1).trans rfl⟩ (fun hHeld => ?_)
                            clear hK K
                            refine norm_ (a' := ?_) ?_ ?_
                            rotate_left
                            · show Act.put _ (some 15) _ = _
                              simp only [Act.put, List.setIfInBounds_toArray, List.set_cons_zero, List.set_cons_succ, i64_w, i32_w]
                              rfl
                            exact norm_ (by simp only [putAll, Act.put, List.setIfInBounds_toArray, List.set_cons_zero, List.set_cons_succ]) (hCont (gb251) _ ⟨hHeld, (by (with_reducible repeat (first | refine blk_drewN ?_ _ | refine blk_drew ?_ | refine blk_alloc ?_ _)); exact BK237.out), (by (with_reducible repeat (first | refine blk_drewN ?_ _ | refine blk_drew ?_ | refine blk_alloc ?_ _)); exact BK238.out), (by (with_reducible repeat (first | refine blk_drewN ?_ _ | refine blk_drew ?_ | refine blk_alloc ?_ _)); exact BK243.out), (by (with_reducible repeat (first | refine blk_drewN ?_ _ | refine blk_drew ?_ | refine blk_alloc ?_ _)); exact BK247.out), (by (with_reducible repeat (first | refine blk_drewN ?_ _ | refine blk_drew ?_ | refine blk_alloc ?_ _)); exact BK251.out), GW251.out, GE251.out, NB237_251.out, NB251_237.out, NB238_251.out, NB251_238.out, NB243_251.out, NB251_243.out, NB247_251.out, NB251_247.out, (by repeat (first | (with_reducible first | exact HB.out | apply below_alloc | apply pw_below_drewN | apply below_drew1 | refine below_set ?_ GE237.out | refine below_set ?_ GE238.out | refine below_set ?_ GE243.out | refine below_set ?_ GE247.out | refine below_set ?_ GE251.out) | exact HB.out))⟩)
                          · skip
                            refine box_step ?hg (N := 15) ?hd (cs := #[.int .i64 0, .int .i64 0]) (t := 25) ?hr ?_; (case hd => rfl); (case hg => rfl); (case hr => first | (go_simp; done) | (go_simp; rfl))
                            intro gb251 hg w85 hbox hb
                            have n0_ := Aside0.mk (blk_below (g := gb237) (o := .cells #[.string a0_0, .int .i64 a0_1, .int .i64 a0_2, .int .i64 a0_3, .int .i64 a0_4, .int .i64 a0_5, .int .i64 a0_6, .int .i64 a0_7] 23 (0, 0)) (by (with_reducible repeat (first | refine blk_drewN ?_ _ | refine blk_drew ?_ | refine blk_alloc ?_ _)); exact BK237.out) hb)
                            have n1_ := Aside0.mk (blk_below (g := gb238) (o := .cells #[.int .i64 a1_0, .int .i64 a1_1] 25 (0, 0)) (by (with_reducible repeat (first | refine blk_drewN ?_ _ | refine blk_drew ?_ | refine blk_alloc ?_ _)); exact BK238.out) hb)
                            have n2_ := Aside0.mk (blk_below (g := gb243) (o := .cells #[.int .i64 t240, .int .i64 t241] 25 (0, 0)) (by (with_reducible repeat (first | refine blk_drewN ?_ _ | refine blk_drew ?_ | refine blk_alloc ?_ _)); exact BK243.out) hb)
                            have n3_ := Aside0.mk (blk_below (g := gb247) (o := .cells #[.int .i64 t244, .int .i64 t245] 25 (0, 0)) (by (with_reducible repeat (first | refine blk_drewN ?_ _ | refine blk_drew ?_ | refine blk_alloc ?_ _)); exact BK247.out) hb)
                            have n4_ := Aside0.mk (below_step (by repeat (first | (with_reducible first | exact HB.out | apply below_alloc | apply pw_below_drewN | apply below_drew1 | refine below_set ?_ GE237.out | refine below_set ?_ GE238.out | refine below_set ?_ GE243.out | refine below_set ?_ GE247.out) | exact HB.out)) hb)
                            have n5_ := Aside0.mk (hbox)
                            have n6_ := Aside0.mk ((by rw [hg]; exact (below_size (by repeat (first | (with_reducible first | exact HB.out | apply below_alloc | apply pw_below_drewN | apply below_drew1 | refine below_set ?_ GE237.out | refine below_set ?_ GE238.out | refine below_set ?_ GE243.out | refine below_set ?_ GE247.out) | exact HB.out))) : w.heap.size ≤ gb251))
                            have n7_ := Aside0.mk ((by rw [hg]; exact (below_size (by repeat (first | (with_reducible first | exact HB.out | apply below_alloc | apply pw_below_drewN | apply below_drew1 | refine below_set ?_ GE237.out | refine below_set ?_ GE238.out | refine below_set ?_ GE243.out | refine below_set ?_ GE247.out) | exact HB.out))) : w.heap.size ≤ gb251))
                            have n8_ := Aside0.mk ((by rw [hg]; exact Nat.ne_of_lt (blk_lt (g := gb237) (o := .cells #[.string a0_0, .int .i64 a0_1, .int .i64 a0_2, .int .i64 a0_3, .int .i64 a0_4, .int .i64 a0_5, .int .i64 a0_6, .int .i64 a0_7] 23 (0, 0)) (by (with_reducible repeat (first | refine blk_drewN ?_ _ | refine blk_drew ?_ | refine blk_alloc ?_ _)); exact BK237.out)) : gb237 ≠ gb251))
                            have n9_ := Aside0.mk ((by rw [hg]; exact Nat.ne_of_gt (blk_lt (g := gb237) (o := .cells #[.string a0_0, .int .i64 a0_1, .int .i64 a0_2, .int .i64 a0_3, .int .i64 a0_4, .int .i64 a0_5, .int .i64 a0_6, .int .i64 a0_7] 23 (0, 0)) (by (with_reducible repeat (first | refine blk_drewN ?_ _ | refine blk_drew ?_ | refine blk_alloc ?_ _)); exact BK237.out)) : gb251 ≠ gb237))
                            have n10_ := Aside0.mk ((by rw [hg]; exact Nat.ne_of_lt (blk_lt (g := gb238) (o := .cells #[.int .i64 a1_0, .int .i64 a1_1] 25 (0, 0)) (by (with_reducible repeat (first | refine blk_drewN ?_ _ | refine blk_drew ?_ | refine blk_alloc ?_ _)); exact BK238.out)) : gb238 ≠ gb251))
                            have n11_ := Aside0.mk ((by rw [hg]; exact Nat.ne_of_gt (blk_lt (g := gb238) (o := .cells #[.int .i64 a1_0, .int .i64 a1_1] 25 (0, 0)) (by (with_reducible repeat (first | refine blk_drewN ?_ _ | refine blk_drew ?_ | refine blk_alloc ?_ _)); exact BK238.out)) : gb251 ≠ gb238))
                            have n12_ := Aside0.mk ((by rw [hg]; exact Nat.ne_of_lt (blk_lt (g := gb243) (o := .cells #[.int .i64 t240, .int .i64 t241] 25 (0, 0)) (by (with_reducible repeat (first | refine blk_drewN ?_ _ | refine blk_drew ?_ | refine blk_alloc ?_ _)); exact BK243.out)) : gb243 ≠ gb251))
                            have n13_ := Aside0.mk ((by rw [hg]; exact Nat.ne_of_gt (blk_lt (g := gb243) (o := .cells #[.int .i64 t240, .int .i64 t241] 25 (0, 0)) (by (with_reducible repeat (first | refine blk_drewN ?_ _ | refine blk_drew ?_ | refine blk_alloc ?_ _)); exact BK243.out)) : gb251 ≠ gb243))
                            have n14_ := Aside0.mk ((by rw [hg]; exact Nat.ne_of_lt (blk_lt (g := gb247) (o := .cells #[.int .i64 t244, .int .i64 t245] 25 (0, 0)) (by (with_reducible repeat (first | refine blk_drewN ?_ _ | refine blk_drew ?_ | refine blk_alloc ?_ _)); exact BK247.out)) : gb247 ≠ gb251))
                            have n15_ := Aside0.mk ((by rw [hg]; exact Nat.ne_of_gt (blk_lt (g := gb247) (o := .cells #[.int .i64 t244, .int .i64 t245] 25 (0, 0)) (by (with_reducible repeat (first | refine blk_drewN ?_ _ | refine blk_drew ?_ | refine blk_alloc ?_ _)); exact BK247.out)) : gb251 ≠ gb247))
                            clear BK237
                            clear BK238
                            clear BK243
                            clear BK247
                            clear HB
                            have BK237 := n0_
                            have BK238 := n1_
                            have BK243 := n2_
                            have BK247 := n3_
                            have HB := n4_
                            have BK251 := n5_
                            have GW251 := n6_
                            have GE251 := n7_
                            have NB237_251 := n8_
                            have NB251_237 := n9_
                            have NB238_251 := n10_
                            have NB251_238 := n11_
                            have NB243_251 := n12_
                            have NB251_243 := n13_
                            have NB247_251 := n14_
                            have NB251_247 := n15_
                            clear n0_ n1_ n2_ n3_ n4_ n5_ n6_ n7_ n8_ n9_ n10_ n11_ n12_ n13_ n14_ n15_
                            clear hb hbox hg
                            refine hK.out _ _ ⟨(blk_cell BK237.out 0).trans rfl, (blk_cell BK237.out 1).trans rfl, (blk_cell BK237.out 2).trans rfl, (blk_cell BK237.out 3).trans rfl, (blk_cell BK237.out 4).trans rfl, (blk_cell BK237.out 5).trans rfl, (blk_cell BK237.out 6).trans rfl, (blk_cell BK237.out 7).trans rfl, (blk_cell BK238.out 0).trans rfl, (blk_cell BK238.out 1).trans rfl⟩ (fun hHeld => ?_)
                            clear hK K
                            refine norm_ (a' := ?_) ?_ ?_
                            rotate_left
                            · show Act.put _ (some 15) _ = _
                              simp only [Act.put, List.setIfInBounds_toArray, List.set_cons_zero, List.set_cons_succ, i64_w, i32_w]
                              rfl
                            refine one_ (i := 10) (N := some 70) #[true, true, true, true, true, true, true, true, true, true, true, false, false, false, true, false, false] rfl rfl (one_of HT_.out (by kernel_rfl)) (by decide) (fun K hK => ?_)
                            refine goes_ Tryd.func10 (by kernel_rfl) rfl #[.agg #[.string a0_0, .int .i64 a0_1, .int .i64 a0_2, .int .i64 a0_3, .int .i64 a0_4, .int .i64 a0_5, .int .i64 a0_6, .int .i64 a0_7], .agg #[.int .i64 a1_0, .int .i64 a1_1], .int .i64 ji23] (by rfl) rfl rfl (by (try simp only [List.map_toArray, List.map_cons, List.map_nil]); first | done | (simp only [hji23]; rfl) | rfl | (simp only [List.length_drop, List.length_take]; rfl)) ?_
                            with_reducible refine (ramp_Next.calls a0_0 a0_1 a0_2 a0_3 a0_4 a0_5 a0_6 a0_7 a1_0 a1_1 ji23 t248 t249 t250 _ (hG.below (by repeat (first | (with_reducible first | exact HB.out | apply below_alloc | apply pw_below_drewN | apply below_drew1) | exact HB.out | (refine Below.setCell ?_ (Aside0.out (by assumption)) _)))) A24.out).mono ?_
                            rintro e w86 ⟨rfl, hb⟩
                            refine ⟨_, rfl, ?_⟩
                            have n0_ := Aside0.mk (blk_below (g := gb237) (o := .cells #[.string a0_0, .int .i64 a0_1, .int .i64 a0_2, .int .i64 a0_3, .int .i64 a0_4, .int .i64 a0_5, .int .i64 a0_6, .int .i64 a0_7] 23 (0, 0)) (by (with_reducible repeat (first | refine blk_drewN ?_ _ | refine blk_drew ?_ | refine blk_alloc ?_ _)); exact BK237.out) hb)
                            have n1_ := Aside0.mk (blk_below (g := gb238) (o := .cells #[.int .i64 a1_0, .int .i64 a1_1] 25 (0, 0)) (by (with_reducible repeat (first | refine blk_drewN ?_ _ | refine blk_drew ?_ | refine blk_alloc ?_ _)); exact BK238.out) hb)
                            have n2_ := Aside0.mk (blk_below (g := gb243) (o := .cells #[.int .i64 t240, .int .i64 t241] 25 (0, 0)) (by (with_reducible repeat (first | refine blk_drewN ?_ _ | refine blk_drew ?_ | refine blk_alloc ?_ _)); exact BK243.out) hb)
                            have n3_ := Aside0.mk (blk_below (g := gb247) (o := .cells #[.int .i64 t244, .int .i64 t245] 25 (0, 0)) (by (with_reducible repeat (first | refine blk_drewN ?_ _ | refine blk_drew ?_ | refine blk_alloc ?_ _)); exact BK247.out) hb)
                            have n4_ := Aside0.mk (blk_below (g := gb251) (o := .cells #[.int .i64 0, .int .i64 0] 25 (0, 0)) (by (with_reducible repeat (first | refine blk_drewN ?_ _ | refine blk_drew ?_ | refine blk_alloc ?_ _)); exact BK251.out) hb)
                            have n5_ := Aside0.mk (below_step (by repeat (first | (with_reducible first | exact HB.out | apply below_alloc | apply pw_below_drewN | apply below_drew1 | refine below_set ?_ GE237.out | refine below_set ?_ GE238.out | refine below_set ?_ GE243.out | refine below_set ?_ GE247.out | refine below_set ?_ GE251.out) | exact HB.out)) hb)
                            clear BK237
                            clear BK238
                            clear BK243
                            clear BK247
                            clear BK251
                            clear HB
                            have BK237 := n0_
                            have BK238 := n1_
                            have BK243 := n2_
                            have BK247 := n3_
                            have BK251 := n4_
                            have HB := n5_
                            clear n0_ n1_ n2_ n3_ n4_ n5_
                            (try clear hb)
                            (try clear hb2)
                            (try clear hk)
                            (try clear hi)
                            refine hK.out _ _ ⟨(blk_cell BK237.out 0).trans rfl, (blk_cell BK237.out 1).trans rfl, (blk_cell BK237.out 2).trans rfl, (blk_cell BK237.out 3).trans rfl, (blk_cell BK237.out 4).trans rfl, (blk_cell BK237.out 5).trans rfl, (blk_cell BK237.out 6).trans rfl, (blk_cell BK237.out 7).trans rfl, (blk_cell BK238.out 0).trans rfl, (blk_cell BK238.out 1).trans rfl⟩ (fun hHeld => ?_)
                            clear hK K
                            refine norm_ (a' := ?_) ?_ ?_
                            rotate_left
                            · show Act.put _ (some 70) _ = _
                              simp only [Act.put, List.setIfInBounds_toArray, List.set_cons_zero, List.set_cons_succ, i64_w, i32_w]
                              rfl
                            refine pure_ (i := 11) (N := some 59) (v := ?_) (a' := ?_) #[true, true, true, true, true, true, true, true, true, true, true, true, false, false, true, false, false] rfl rfl (any_of HT_.out (by kernel_rfl)) (fun _ _ _ h => h) (Or.inl ⟨by rfl, ?_⟩) ?_ ?_
                            rotate_left
                            · intro w'
                              go_simp
                              with_reducible rfl
                            rotate_left
                            · simp only [Act.put, List.setIfInBounds_toArray, List.set_cons_zero, List.set_cons_succ, i64_w, i32_w]
                              rfl
                            refine pure_ (i := 12) (N := some 71) (v := ?_) (a' := ?_) #[true, true, true, true, true, true, true, true, true, true, true, true, true, false, true, false, false] rfl rfl (any_of HT_.out (by kernel_rfl)) (fun _ _ _ h => h) (Or.inl ⟨by rfl, ?_⟩) ?_ ?_
                            rotate_left
                            · intro w'
                              go_simp
                              with_reducible rfl
                            rotate_left
                            · simp only [Act.put, List.setIfInBounds_toArray, List.set_cons_zero, List.set_cons_succ, i64_w, i32_w]
                              rfl
                            refine pure_ (i := 13) (N := some 72) (v := ?_) (a' := ?_) #[true, true, true, true, true, true, true, true, true, true, true, true, true, true, true, false, false] rfl rfl (any_of HT_.out (by kernel_rfl)) (fun _ _ _ h => h) (Or.inl ⟨by rfl, ?_⟩) ?_ ?_
                            rotate_left
                            · intro w'
                              go_simp
                              with_reducible rfl
                            rotate_left
                            · simp only [Act.put, List.setIfInBounds_toArray, List.set_cons_zero, List.set_cons_succ, i64_w, i32_w]
                              rfl
                            exact norm_ (by simp only [putAll, Act.put, List.setIfInBounds_toArray, List.set_cons_zero, List.set_cons_succ]) (hCont (gb251) _ ⟨hHeld, (by (with_reducible repeat (first | refine blk_drewN ?_ _ | refine blk_drew ?_ | refine blk_alloc ?_ _)); exact BK237.out), (by (with_reducible repeat (first | refine blk_drewN ?_ _ | refine blk_drew ?_ | refine blk_alloc ?_ _)); exact BK238.out), (by (with_reducible repeat (first | refine blk_drewN ?_ _ | refine blk_drew ?_ | refine blk_alloc ?_ _)); exact BK243.out), (by (with_reducible repeat (first | refine blk_drewN ?_ _ | refine blk_drew ?_ | refine blk_alloc ?_ _)); exact BK247.out), (by (with_reducible repeat (first | refine blk_drewN ?_ _ | refine blk_drew ?_ | refine blk_alloc ?_ _)); exact BK251.out), GW251.out, GE251.out, NB237_251.out, NB251_237.out, NB238_251.out, NB251_238.out, NB243_251.out, NB251_243.out, NB247_251.out, NB251_247.out, (by repeat (first | (with_reducible first | exact HB.out | apply below_alloc | apply pw_below_drewN | apply below_drew1 | refine below_set ?_ GE237.out | refine below_set ?_ GE238.out | refine below_set ?_ GE243.out | refine below_set ?_ GE247.out | refine below_set ?_ GE251.out) | exact HB.out))⟩)
                        rintro gb251 w87 ⟨hS_, h0_, h1_, h2_, h3_, h4_, h5_, h6_, h7_, h8_, h9_, h10_, h11_, h12_, h13_, h14_, h15_⟩
                        have n0_ : Aside0 (w87.heap[gb237]? = some (.cells #[.string a0_0, .int .i64 a0_1, .int .i64 a0_2, .int .i64 a0_3, .int .i64 a0_4, .int .i64 a0_5, .int .i64 a0_6, .int .i64 a0_7] 23 (0, 0))) := ⟨h0_⟩
                        have n1_ : Aside0 (w87.heap[gb238]? = some (.cells #[.int .i64 a1_0, .int .i64 a1_1] 25 (0, 0))) := ⟨h1_⟩
                        have n2_ : Aside0 (w87.heap[gb243]? = some (.cells #[.int .i64 t240, .int .i64 t241] 25 (0, 0))) := ⟨h2_⟩
                        have n3_ : Aside0 (w87.heap[gb247]? = some (.cells #[.int .i64 t244, .int .i64 t245] 25 (0, 0))) := ⟨h3_⟩
                        have n4_ : Aside0 (w87.heap[gb251]? = some (.cells #[.int .i64 0, .int .i64 0] 25 (0, 0))) := ⟨h4_⟩
                        have n5_ : Aside0 (w.heap.size ≤ gb251) := ⟨h5_⟩
                        have n6_ : Aside0 (w.heap.size ≤ gb251) := ⟨h6_⟩
                        have n7_ : Aside0 (gb237 ≠ gb251) := ⟨h7_⟩
                        have n8_ : Aside0 (gb251 ≠ gb237) := ⟨h8_⟩
                        have n9_ : Aside0 (gb238 ≠ gb251) := ⟨h9_⟩
                        have n10_ : Aside0 (gb251 ≠ gb238) := ⟨h10_⟩
                        have n11_ : Aside0 (gb243 ≠ gb251) := ⟨h11_⟩
                        have n12_ : Aside0 (gb251 ≠ gb243) := ⟨h12_⟩
                        have n13_ : Aside0 (gb247 ≠ gb251) := ⟨h13_⟩
                        have n14_ : Aside0 (gb251 ≠ gb247) := ⟨h14_⟩
                        have n15_ : Aside0 (Below w.heap.size w w87) := ⟨h15_⟩
                        clear BK237
                        clear BK238
                        clear BK243
                        clear BK247
                        clear HB
                        clear h0_ h1_ h2_ h3_ h4_ h5_ h6_ h7_ h8_ h9_ h10_ h11_ h12_ h13_ h14_ h15_
                        have BK237 := n0_
                        have BK238 := n1_
                        have BK243 := n2_
                        have BK247 := n3_
                        have BK251 := n4_
                        have GW251 := n5_
                        have GE251 := n6_
                        have NB237_251 := n7_
                        have NB251_237 := n8_
                        have NB238_251 := n9_
                        have NB251_238 := n10_
                        have NB243_251 := n11_
                        have NB251_243 := n12_
                        have NB247_251 := n13_
                        have NB251_247 := n14_
                        have HB := n15_
                        clear n0_ n1_ n2_ n3_ n4_ n5_ n6_ n7_ n8_ n9_ n10_ n11_ n12_ n13_ n14_ n15_
                        have hHeld : w87.cell? ⟨gb237, 0, none⟩ = some (.string a0_0) ∧ w87.cell? ⟨gb237, 1, none⟩ = some (.int .i64 a0_1) ∧ w87.cell? ⟨gb237, 2, none⟩ = some (.int .i64 a0_2) ∧ w87.cell? ⟨gb237, 3, none⟩ = some (.int .i64 a0_3) ∧ w87.cell? ⟨gb237, 4, none⟩ = some (.int .i64 a0_4) ∧ w87.cell? ⟨gb237, 5, none⟩ = some (.int .i64 a0_5) ∧ w87.cell? ⟨gb237, 6, none⟩ = some (.int .i64 a0_6) ∧ w87.cell? ⟨gb237, 7, none⟩ = some (.int .i64 a0_7) ∧ w87.cell? ⟨gb238, 0, none⟩ = some (.int .i64 a1_0) ∧ w87.cell? ⟨gb238, 1, none⟩ = some (.int .i64 a1_1) := hS_
                        refine norm_ (a' := ?_) ?_ ?_
                        rotate_left
                        · simp only [putAll, Act.put, List.setIfInBounds_toArray, List.set_cons_zero, List.set_cons_succ]
                          rfl
                        refine one_ (i := 15) (N := none) #[true, true, true, true, true, true, true, true, true, true, true, true, true, true, true, true, false] rfl rfl (one_of HT_.out (by kernel_rfl)) (by decide) (fun K hK => ?_)
                        have hs88 : w87.cell? ⟨gb251, 0, none⟩ = some (.int .i64 0) := (blk_cell BK251.out 0).trans rfl
                        have hfs88 := blk_frozen BK251.out 0
                        have hns88_0 := NB237_251.out
                        have hns88_1 := NB238_251.out
                        have hns88_2 := NB243_251.out
                        have hns88_3 := NB247_251.out
                        have hms88_0 := NB251_237.out
                        have hms88_1 := NB251_238.out
                        have hms88_2 := NB251_243.out
                        have hms88_3 := NB251_247.out
                        have hs89 : w87.cell? ⟨gb251, 1, none⟩ = some (.int .i64 0) := (blk_cell BK251.out 1).trans rfl
                        have hfs89 := blk_frozen BK251.out 1
                        have hns89_0 := NB237_251.out
                        have hns89_1 := NB238_251.out
                        have hns89_2 := NB243_251.out
                        have hns89_3 := NB247_251.out
                        have hms89_0 := NB251_237.out
                        have hms89_1 := NB251_238.out
                        have hms89_2 := NB251_243.out
                        have hms89_3 := NB251_247.out
                        refine skip_ (w1 := ?_) (by rfl) rfl ?_ ?_
                        rotate_left
                        · go_simp
                          rfl
                        refine hK.out _ _ ⟨((cell_far (p := ⟨gb251, _, none⟩) NB237_251.out _).trans (((cell_far (p := ⟨gb251, _, none⟩) NB237_251.out _).trans (hHeld.1)))), ((cell_far (p := ⟨gb251, _, none⟩) NB237_251.out _).trans (((cell_far (p := ⟨gb251, _, none⟩) NB237_251.out _).trans (hHeld.2.1)))), ((cell_far (p := ⟨gb251, _, none⟩) NB237_251.out _).trans (((cell_far (p := ⟨gb251, _, none⟩) NB237_251.out _).trans (hHeld.2.2.1)))), ((cell_far (p := ⟨gb251, _, none⟩) NB237_251.out _).trans (((cell_far (p := ⟨gb251, _, none⟩) NB237_251.out _).trans (hHeld.2.2.2.1)))), ((cell_far (p := ⟨gb251, _, none⟩) NB237_251.out _).trans (((cell_far (p := ⟨gb251, _, none⟩) NB237_251.out _).trans (hHeld.2.2.2.2.1)))), ((cell_far (p := ⟨gb251, _, none⟩) NB237_251.out _).trans (((cell_far (p := ⟨gb251, _, none⟩) NB237_251.out _).trans (hHeld.2.2.2.2.2.1)))), ((cell_far (p := ⟨gb251, _, none⟩) NB237_251.out _).trans (((cell_far (p := ⟨gb251, _, none⟩) NB237_251.out _).trans (hHeld.2.2.2.2.2.2.1)))), ((cell_far (p := ⟨gb251, _, none⟩) NB237_251.out _).trans (((cell_far (p := ⟨gb251, _, none⟩) NB237_251.out _).trans (hHeld.2.2.2.2.2.2.2.1)))), ((cell_far (p := ⟨gb251, _, none⟩) NB238_251.out _).trans (((cell_far (p := ⟨gb251, _, none⟩) NB238_251.out _).trans (hHeld.2.2.2.2.2.2.2.2.1)))), ((cell_far (p := ⟨gb251, _, none⟩) NB238_251.out _).trans (((cell_far (p := ⟨gb251, _, none⟩) NB238_251.out _).trans (hHeld.2.2.2.2.2.2.2.2.2))))⟩ (fun hHeld => ?_)
                        clear hK K
                        refine pure_ (i := 16) (N := some 16) (v := ?_) (a' := ?_) #[true, true, true, true, true, true, true, true, true, true, true, true, true, true, true, true, true] rfl rfl (any_of HT_.out (by kernel_rfl)) (fun _ _ _ h => h) (Or.inl ⟨by rfl, ?_⟩) ?_ ?_
                        rotate_left
                        · intro w'
                          go_simp
                          with_reducible rfl
                        rotate_left
                        · simp only [Act.put, List.setIfInBounds_toArray, List.set_cons_zero, List.set_cons_succ, i64_w, i32_w]
                          rfl
                        refine done_ (done_of HT_.out (by kernel_rfl)) ?_
                        have hnb90 := NB238_251.out
                        have hnc90 := NB251_238.out
                        have hcz91_0 : w87.cell? ⟨gb238, 0, none⟩ = some (.int .i64 a1_0) := (blk_cell BK238.out 0).trans rfl
                        have hcz91_1 : w87.cell? ⟨gb238, 1, none⟩ = some (.int .i64 a1_1) := (blk_cell BK238.out 1).trans rfl
                        have hfz91_0 := blk_frozen BK238.out 0
                        have hfz91_1 := blk_frozen BK238.out 1
                        have hnb92 := NB251_237.out
                        have hnc92 := NB237_251.out
                        have hnb93 := NB251_243.out
                        have hnc93 := NB243_251.out
                        have hnb94 := NB251_247.out
                        have hnc94 := NB247_251.out
                        have hcz95_0 : w87.cell? ⟨gb251, 0, none⟩ = some (.int .i64 0) := (blk_cell BK251.out 0).trans rfl
                        have hcz95_1 : w87.cell? ⟨gb251, 1, none⟩ = some (.int .i64 0) := (blk_cell BK251.out 1).trans rfl
                        have hfz95_0 := blk_frozen BK251.out 0
                        have hfz95_1 := blk_frozen BK251.out 1
                        have hcz96_0 : w87.cell? ⟨gb243, 0, none⟩ = some (.int .i64 t240) := (blk_cell BK243.out 0).trans rfl
                        have hcz96_1 : w87.cell? ⟨gb243, 1, none⟩ = some (.int .i64 t241) := (blk_cell BK243.out 1).trans rfl
                        have hfz96_0 := blk_frozen BK243.out 0
                        have hfz96_1 := blk_frozen BK243.out 1
                        have hcz97_0 : w87.cell? ⟨gb247, 0, none⟩ = some (.int .i64 t244) := (blk_cell BK247.out 0).trans rfl
                        have hcz97_1 : w87.cell? ⟨gb247, 1, none⟩ = some (.int .i64 t245) := (blk_cell BK247.out 1).trans rfl
                        have hfz97_0 := blk_frozen BK247.out 0
                        have hfz97_1 := blk_frozen BK247.out 1
                        try go_wp2
                        go_ret
                        exact ⟨by first | rfl | (simp [errW_none, errW_some] <;> rfl) | (simp only [← hji23, ← hji61]; first | rfl | (simp [errW_none, errW_some] <;> rfl)) | (simp [*, errW_none, errW_some] <;> rfl), by repeat (first | (with_reducible first | exact HB.out | apply below_alloc | apply pw_below_drewN | apply below_drew1 | refine below_set ?_ GE237.out | refine below_set ?_ GE238.out | refine below_set ?_ GE243.out | refine below_set ?_ GE247.out | refine below_set ?_ GE251.out) | exact HB.out)⟩
                      · rw [if_neg c66] at H
                        have c66b0 : decide (t240 ≤ t244) = false := decide_eq_false c66
                        clear c66
                        obtain rfl := Option.some.inj H
                        exact absurd hr.out (by decide)
                    · rw [if_neg c65] at H
                      have c65b0 : (t250 == 0) = false := beq_eq_false_iff_ne.mpr c65
                      have c65b1 : (t250 != 0) = true := bne_iff_ne.mpr c65
                      obtain rfl := Option.some.inj H
                      exact absurd hr.out (by decide)
                  · rw [if_neg c64] at H
                    have c64b0 : (t246 == 0) = false := beq_eq_false_iff_ne.mpr c64
                    have c64b1 : (t246 != 0) = true := bne_iff_ne.mpr c64
                    obtain rfl := Option.some.inj H
                    exact absurd hr.out (by decide)
                · rw [if_neg c63] at H
                  have c63b0 : (t242 == 0) = false := beq_eq_false_iff_ne.mpr c63
                  have c63b1 : (t242 != 0) = true := bne_iff_ne.mpr c63
                  obtain rfl := Option.some.inj H
                  exact absurd hr.out (by decide)
              · exact absurd rfl c62
            · rw [if_neg c60] at H
              have c60b0 : (t248 == a1_0) = false := beq_eq_false_iff_ne.mpr c60
              have c60b1 : (t248 != a1_0) = true := bne_iff_ne.mpr c60
              by_cases c98 : (true = true)
              · clear c98
                have H1 : (if t242 = 0 then (if t246 = 0 then (if t250 = 0 then (if t240 ≤ t244 then (some false) else (some false)) else (some false)) else (some false)) else (some false)) = some r := by rw [if_pos rfl] at H; exact H
                clear H
                have H := H1
                clear H1
                by_cases c99 : t242 = 0
                · rw [if_pos c99] at H
                  have c99b0 : (t242 == 0) = true := beq_iff_eq.mpr c99
                  have c99b1 : (t242 != 0) = false := bne_eq_false_iff_eq.mpr c99
                  clear c99
                  by_cases c100 : t246 = 0
                  · rw [if_pos c100] at H
                    have c100b0 : (t246 == 0) = true := beq_iff_eq.mpr c100
                    have c100b1 : (t246 != 0) = false := bne_eq_false_iff_eq.mpr c100
                    clear c100
                    by_cases c101 : t250 = 0
                    · rw [if_pos c101] at H
                      have c101b0 : (t250 == 0) = true := beq_iff_eq.mpr c101
                      have c101b1 : (t250 != 0) = false := bne_eq_false_iff_eq.mpr c101
                      clear c101
                      by_cases c102 : t240 ≤ t244
                      · rw [if_pos c102] at H
                        have c102b0 : decide (t240 ≤ t244) = true := decide_eq_true c102
                        clear c102
                        obtain rfl := Option.some.inj H
                        exact absurd hr.out (by decide)
                      · rw [if_neg c102] at H
                        have c102b0 : decide (t240 ≤ t244) = false := decide_eq_false c102
                        clear c102
                        obtain rfl := Option.some.inj H
                        exact absurd hr.out (by decide)
                    · rw [if_neg c101] at H
                      have c101b0 : (t250 == 0) = false := beq_eq_false_iff_ne.mpr c101
                      have c101b1 : (t250 != 0) = true := bne_iff_ne.mpr c101
                      obtain rfl := Option.some.inj H
                      exact absurd hr.out (by decide)
                  · rw [if_neg c100] at H
                    have c100b0 : (t246 == 0) = false := beq_eq_false_iff_ne.mpr c100
                    have c100b1 : (t246 != 0) = true := bne_iff_ne.mpr c100
                    obtain rfl := Option.some.inj H
                    exact absurd hr.out (by decide)
                · rw [if_neg c99] at H
                  have c99b0 : (t242 == 0) = false := beq_eq_false_iff_ne.mpr c99
                  have c99b1 : (t242 != 0) = true := bne_iff_ne.mpr c99
                  obtain rfl := Option.some.inj H
                  exact absurd hr.out (by decide)
              · exact absurd rfl c98
end Go.Proofs.YtagphncpdhaklaaDoor.PAll
