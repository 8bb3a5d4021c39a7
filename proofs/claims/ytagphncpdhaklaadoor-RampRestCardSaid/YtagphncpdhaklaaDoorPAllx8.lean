/- What the Go functions of this seat's laws return, told as Lean functions and proved by their walks; laid by a program of this session out of Lean's own print of the translation. No conditions of its own. -/
import Derived.Test.YtagphncpdhaklaaDoorPAllx0
import Derived.Test.YtagphncpdhaklaaDoorPAllx1
import Derived.Test.YtagphncpdhaklaaDoorPAllx3
import Derived.Test.YtagphncpdhaklaaDoorPAllx4
import Derived.Test.YtagphncpdhaklaaDoorPAllx6
import Derived.Test.YtagphncpdhaklaaDoorPAllx7
namespace Go.Proofs.YtagphncpdhaklaaDoor.PAll
open Go.RowKit Go.Proofs.YtagphncpdhaklaaDoorW.PrintWords Go.Proofs.YtagphncpdhaklaaDoorW.PrintLast Go.Proofs.YtagphncpdhaklaaDoorW.PrintMore
attribute [local go_sem] max2_int min2_int max_two min_two max_three min_three max_four min_four   -- for this text's walks alone
set_option linter.unusedVariables false
set_option linter.unusedSimpArgs false

attribute [local go_sem high] eqA25
/-! ### chargeparkref24_Next: function 11 -/
mutual
def chargeparkref24_Next.j0 : Nat → Int → Bool → ByteArray → Int → Int → Int → Int → Int → Int → Int → Int → Int → Option (Int × Int × Int)
  | 0, _, _, _, _, _, _, _, _, _, _, _, _ => none
  | k + 1, x2, x23, x193000, x193001, x193002, x193003, x193004, x193005, x193006, x193007, x194000, x194001 => if x23 = true then (some (0, 0, 1)) else ((chargeparkref24_Level.f k x193000 x193001 x193002 x193003 x193004 x193005 x193006 x193007 x2).bind fun t196 => (if x194000 = 0 then (if t196 > 0 then (chargeparkref24_Next.j1 k t196 (mn (wrap64 (x194001 + 1)) 1000000) (decide (x194001 ≥ 5)) x193000 x193001 x193002 x193003 x193004 x193005 x193006 x193007 x194000 x194001) else (chargeparkref24_Next.j1 k t196 (mn (wrap64 (x194001 + 1)) 1000000) false x193000 x193001 x193002 x193003 x193004 x193005 x193006 x193007 x194000 x194001)) else (chargeparkref24_Next.j1 k t196 (mn (wrap64 (x194001 + 1)) 1000000) false x193000 x193001 x193002 x193003 x193004 x193005 x193006 x193007 x194000 x194001)))
def chargeparkref24_Next.j1 : Nat → Int → Int → Bool → ByteArray → Int → Int → Int → Int → Int → Int → Int → Int → Int → Option (Int × Int × Int)
  | 0, _, _, _, _, _, _, _, _, _, _, _, _, _ => none
  | k + 1, x9, x10, x43, x193000, x193001, x193002, x193003, x193004, x193005, x193006, x193007, x194000, x194001 => if x43 = true then (some (x193003, 0, 0)) else (if x194000 = 0 then (some (0, x10, 0)) else (if x9 = 0 then (some (0, 0, 0)) else (some (mn x9 (wrap64 (x194000 + x193005)), x10, 0))))
end
def chargeparkref24_Next.f (k : Nat) (a0_0 : ByteArray) (a0_1 : Int) (a0_2 : Int) (a0_3 : Int) (a0_4 : Int) (a0_5 : Int) (a0_6 : Int) (a0_7 : Int) (a1_0 : Int) (a1_1 : Int) (a2 : Int) : Option (Int × Int × Int) := (chargeparkref24_Valid.f k a0_0 a0_1 a0_2 a0_3 a0_4 a0_5 a0_6 a0_7 a1_0 a1_1).bind fun t195 => (if t195 = true then (if a2 < 0 then (chargeparkref24_Next.j0 k a2 true a0_0 a0_1 a0_2 a0_3 a0_4 a0_5 a0_6 a0_7 a1_0 a1_1) else (chargeparkref24_Next.j0 k a2 (decide (a2 > 80)) a0_0 a0_1 a0_2 a0_3 a0_4 a0_5 a0_6 a0_7 a1_0 a1_1)) else (chargeparkref24_Next.j0 k a2 true a0_0 a0_1 a0_2 a0_3 a0_4 a0_5 a0_6 a0_7 a1_0 a1_1))
theorem chargeparkref24_Next.mono_l : ∀ k, (∀ y0 y1 y2 y3 y4 y5 y6 y7 y8 y9 y10 y11, LeO (chargeparkref24_Next.j0 k y0 y1 y2 y3 y4 y5 y6 y7 y8 y9 y10 y11) (chargeparkref24_Next.j0 (k + 1) y0 y1 y2 y3 y4 y5 y6 y7 y8 y9 y10 y11)) ∧ (∀ y0 y1 y2 y3 y4 y5 y6 y7 y8 y9 y10 y11 y12, LeO (chargeparkref24_Next.j1 k y0 y1 y2 y3 y4 y5 y6 y7 y8 y9 y10 y11 y12) (chargeparkref24_Next.j1 (k + 1) y0 y1 y2 y3 y4 y5 y6 y7 y8 y9 y10 y11 y12))
  | 0 => ⟨fun _ _ _ _ _ _ _ _ _ _ _ _ r h => by simp [chargeparkref24_Next.j0] at h, fun _ _ _ _ _ _ _ _ _ _ _ _ _ r h => by simp [chargeparkref24_Next.j1] at h⟩
  | k + 1 => by
    obtain ⟨ih0, ih1⟩ := chargeparkref24_Next.mono_l k
    refine ⟨?_, ?_⟩
    · intro y0 y1 y2 y3 y4 y5 y6 y7 y8 y9 y10 y11
      unfold chargeparkref24_Next.j0
      repeat' first
      | (with_reducible exact ih0 _ _ _ _ _ _ _ _ _ _ _ _)
      | (with_reducible exact ih1 _ _ _ _ _ _ _ _ _ _ _ _ _)
      | (with_reducible exact chargeparkref24_Level.mono _ _ _ _ _ _ _ _ _ _)
      | (with_reducible exact chargeparkref24_Valid.mono _ _ _ _ _ _ _ _ _ _ _)
      | (with_reducible exact LeO.refl _)
      | (with_reducible exact LeO.none _)
      | (with_reducible refine LeO.ite ?_ ?_)
      | (with_reducible refine LeO.bind ?_ (fun _ => ?_))
      | exact ih0 _ _ _ _ _ _ _ _ _ _ _ _
      | exact ih1 _ _ _ _ _ _ _ _ _ _ _ _ _
      | exact chargeparkref24_Level.mono _ _ _ _ _ _ _ _ _ _
      | exact chargeparkref24_Valid.mono _ _ _ _ _ _ _ _ _ _ _
      | exact LeO.none _
      | refine LeO.ite ?_ ?_
      | refine LeO.bind ?_ (fun _ => ?_)
    · intro y0 y1 y2 y3 y4 y5 y6 y7 y8 y9 y10 y11 y12
      unfold chargeparkref24_Next.j1
      repeat' first
      | (with_reducible exact ih0 _ _ _ _ _ _ _ _ _ _ _ _)
      | (with_reducible exact ih1 _ _ _ _ _ _ _ _ _ _ _ _ _)
      | (with_reducible exact chargeparkref24_Level.mono _ _ _ _ _ _ _ _ _ _)
      | (with_reducible exact chargeparkref24_Valid.mono _ _ _ _ _ _ _ _ _ _ _)
      | (with_reducible exact LeO.refl _)
      | (with_reducible exact LeO.none _)
      | (with_reducible refine LeO.ite ?_ ?_)
      | (with_reducible refine LeO.bind ?_ (fun _ => ?_))
      | exact ih0 _ _ _ _ _ _ _ _ _ _ _ _
      | exact ih1 _ _ _ _ _ _ _ _ _ _ _ _ _
      | exact chargeparkref24_Level.mono _ _ _ _ _ _ _ _ _ _
      | exact chargeparkref24_Valid.mono _ _ _ _ _ _ _ _ _ _ _
      | exact LeO.none _
      | refine LeO.ite ?_ ?_
      | refine LeO.bind ?_ (fun _ => ?_)
theorem chargeparkref24_Next.mono : ∀ a0 a1 a2 a3 a4 a5 a6 a7 a8 a9 a10 k, LeO (chargeparkref24_Next.f k a0 a1 a2 a3 a4 a5 a6 a7 a8 a9 a10) (chargeparkref24_Next.f (k + 1) a0 a1 a2 a3 a4 a5 a6 a7 a8 a9 a10) := by
  intro a0 a1 a2 a3 a4 a5 a6 a7 a8 a9 a10 k
  obtain ⟨ih0, ih1⟩ := chargeparkref24_Next.mono_l k
  unfold chargeparkref24_Next.f
  repeat' first
      | (with_reducible exact ih0 _ _ _ _ _ _ _ _ _ _ _ _)
      | (with_reducible exact ih1 _ _ _ _ _ _ _ _ _ _ _ _ _)
      | (with_reducible exact chargeparkref24_Level.mono _ _ _ _ _ _ _ _ _ _)
      | (with_reducible exact chargeparkref24_Valid.mono _ _ _ _ _ _ _ _ _ _ _)
      | (with_reducible exact LeO.refl _)
      | (with_reducible exact LeO.none _)
      | (with_reducible refine LeO.ite ?_ ?_)
      | (with_reducible refine LeO.bind ?_ (fun _ => ?_))
      | exact ih0 _ _ _ _ _ _ _ _ _ _ _ _
      | exact ih1 _ _ _ _ _ _ _ _ _ _ _ _ _
      | exact chargeparkref24_Level.mono _ _ _ _ _ _ _ _ _ _
      | exact chargeparkref24_Valid.mono _ _ _ _ _ _ _ _ _ _ _
      | exact LeO.none _
      | refine LeO.ite ?_ ?_
      | refine LeO.bind ?_ (fun _ => ?_)
set_option maxHeartbeats 8000000 in
set_option maxRecDepth 100000 in
theorem chargeparkref24_Next.calls (k : Nat) (a0_0 : ByteArray) (a0_1 : Int) (a0_2 : Int) (a0_3 : Int) (a0_4 : Int) (a0_5 : Int) (a0_6 : Int) (a0_7 : Int) (a1_0 : Int) (a1_1 : Int) (a2 : Int) (r1 : Int) (r2 : Int) (r3 : Int) (w : World) (h : chargeparkref24_Next.f k a0_0 a0_1 a0_2 a0_3 a0_4 a0_5 a0_6 a0_7 a1_0 a1_1 a2 = some (r1, r2, r3)) :
    Calls Tryd.prog 11 #[.agg #[.string a0_0, .int .i64 a0_1, .int .i64 a0_2, .int .i64 a0_3, .int .i64 a0_4, .int .i64 a0_5, .int .i64 a0_6, .int .i64 a0_7], .agg #[.int .i64 a1_0, .int .i64 a1_1], .int .i64 a2] w fun e w' => e = .returned (.tuple #[.agg #[.int .i64 r1, .int .i64 r2], .int .i64 r3]) ∧ Below w.heap.size w w' := by
  have hu23 := Tryd.underlying23
  have hu25 := Tryd.underlying25
  have HB := Aside0.mk (Below.refl w.heap.size w)
  have H : ((chargeparkref24_Valid.f k a0_0 a0_1 a0_2 a0_3 a0_4 a0_5 a0_6 a0_7 a1_0 a1_1).bind fun t195 => (if t195 = true then (if a2 < 0 then (chargeparkref24_Next.j0 k a2 true a0_0 a0_1 a0_2 a0_3 a0_4 a0_5 a0_6 a0_7 a1_0 a1_1) else (chargeparkref24_Next.j0 k a2 (decide (a2 > 80)) a0_0 a0_1 a0_2 a0_3 a0_4 a0_5 a0_6 a0_7 a1_0 a1_1)) else (chargeparkref24_Next.j0 k a2 true a0_0 a0_1 a0_2 a0_3 a0_4 a0_5 a0_6 a0_7 a1_0 a1_1))) = some (r1, r2, r3) := h
  clear h
  replace H := Option.bind_eq_some_iff.mp H
  obtain ⟨t195, A40, H⟩ := H
  replace H : (if t195 = true then (if a2 < 0 then (chargeparkref24_Next.j0 k a2 true a0_0 a0_1 a0_2 a0_3 a0_4 a0_5 a0_6 a0_7 a1_0 a1_1) else (chargeparkref24_Next.j0 k a2 (decide (a2 > 80)) a0_0 a0_1 a0_2 a0_3 a0_4 a0_5 a0_6 a0_7 a1_0 a1_1)) else (chargeparkref24_Next.j0 k a2 true a0_0 a0_1 a0_2 a0_3 a0_4 a0_5 a0_6 a0_7 a1_0 a1_1)) = some (r1, r2, r3) := H
  have A4 := Aside0.mk A40
  clear A40
  have HC5 := Aside0.mk H
  clear H
  go_enter Tryd.func11, Tryd.ntmps11
  go_upto_region 2 with (first | ((with_reducible refine gate_dst (N := 3) rfl ?_); refine box_event ?hg (N := 3) ?hd (cs := #[.string a0_0, .int .i64 a0_1, .int .i64 a0_2, .int .i64 a0_3, .int .i64 a0_4, .int .i64 a0_5, .int .i64 a0_6, .int .i64 a0_7]) (t := 23) ?hr ?_; (case hd => rfl); (case hg => rfl); (case hr => first | (go_simp; done) | (go_simp; rfl)); intro gb192 hg w6 hbox hb; have n0_ := Aside0.mk (below_step (by repeat (first | (with_reducible first | exact HB.out | apply below_alloc | apply pw_below_drewN | apply below_drew1) | exact HB.out)) hb); have n1_ := Aside0.mk (hbox); have n2_ := Aside0.mk ((by rw [hg]; exact (below_size (by repeat (first | (with_reducible first | exact HB.out | apply below_alloc | apply pw_below_drewN | apply below_drew1) | exact HB.out))) : w.heap.size ≤ gb192)); have n3_ := Aside0.mk ((by rw [hg]; exact (below_size (by repeat (first | (with_reducible first | exact HB.out | apply below_alloc | apply pw_below_drewN | apply below_drew1) | exact HB.out))) : w.heap.size ≤ gb192)); clear HB; have HB := n0_; have BK192 := n1_; have GW192 := n2_; have GE192 := n3_; clear n0_ n1_ n2_ n3_; clear hb hbox hg) | ((with_reducible refine gate_dst (N := 4) rfl ?_); refine box_event ?hg (N := 4) ?hd (cs := #[.int .i64 a1_0, .int .i64 a1_1]) (t := 25) ?hr ?_; (case hd => rfl); (case hg => rfl); (case hr => first | (go_simp; done) | (go_simp; rfl)); intro gb193 hg w7 hbox hb; have n0_ := Aside0.mk (blk_below (g := gb192) (o := .cells #[.string a0_0, .int .i64 a0_1, .int .i64 a0_2, .int .i64 a0_3, .int .i64 a0_4, .int .i64 a0_5, .int .i64 a0_6, .int .i64 a0_7] 23 (0, 0)) (by (with_reducible repeat (first | refine blk_drewN ?_ _ | refine blk_drew ?_ | refine blk_alloc ?_ _)); exact BK192.out) hb); have n1_ := Aside0.mk (below_step (by repeat (first | (with_reducible first | exact HB.out | apply below_alloc | apply pw_below_drewN | apply below_drew1 | refine below_set ?_ GE192.out) | exact HB.out)) hb); have n2_ := Aside0.mk (hbox); have n3_ := Aside0.mk ((by rw [hg]; exact (below_size (by repeat (first | (with_reducible first | exact HB.out | apply below_alloc | apply pw_below_drewN | apply below_drew1 | refine below_set ?_ GE192.out) | exact HB.out))) : w.heap.size ≤ gb193)); have n4_ := Aside0.mk ((by rw [hg]; exact (below_size (by repeat (first | (with_reducible first | exact HB.out | apply below_alloc | apply pw_below_drewN | apply below_drew1 | refine below_set ?_ GE192.out) | exact HB.out))) : w.heap.size ≤ gb193)); have n5_ := Aside0.mk ((by rw [hg]; exact Nat.ne_of_lt (blk_lt (g := gb192) (o := .cells #[.string a0_0, .int .i64 a0_1, .int .i64 a0_2, .int .i64 a0_3, .int .i64 a0_4, .int .i64 a0_5, .int .i64 a0_6, .int .i64 a0_7] 23 (0, 0)) (by (with_reducible repeat (first | refine blk_drewN ?_ _ | refine blk_drew ?_ | refine blk_alloc ?_ _)); exact BK192.out)) : gb192 ≠ gb193)); have n6_ := Aside0.mk ((by rw [hg]; exact Nat.ne_of_gt (blk_lt (g := gb192) (o := .cells #[.string a0_0, .int .i64 a0_1, .int .i64 a0_2, .int .i64 a0_3, .int .i64 a0_4, .int .i64 a0_5, .int .i64 a0_6, .int .i64 a0_7] 23 (0, 0)) (by (with_reducible repeat (first | refine blk_drewN ?_ _ | refine blk_drew ?_ | refine blk_alloc ?_ _)); exact BK192.out)) : gb193 ≠ gb192)); clear BK192; clear HB; have BK192 := n0_; have HB := n1_; have BK193 := n2_; have GW193 := n3_; have GE193 := n4_; have NB192_193 := n5_; have NB193_192 := n6_; clear n0_ n1_ n2_ n3_ n4_ n5_ n6_; clear hb hbox hg) | ((with_reducible refine gate_dst (N := 6) rfl ?_); refine box_event ?hg (N := 6) ?hd (cs := #[.int .i64 0, .int .i64 0]) (t := 25) ?hr ?_; (case hd => rfl); (case hg => rfl); (case hr => first | (go_simp; done) | (go_simp; rfl)); intro gb194 hg w8 hbox hb; have n0_ := Aside0.mk (blk_below (g := gb192) (o := .cells #[.string a0_0, .int .i64 a0_1, .int .i64 a0_2, .int .i64 a0_3, .int .i64 a0_4, .int .i64 a0_5, .int .i64 a0_6, .int .i64 a0_7] 23 (0, 0)) (by (with_reducible repeat (first | refine blk_drewN ?_ _ | refine blk_drew ?_ | refine blk_alloc ?_ _)); exact BK192.out) hb); have n1_ := Aside0.mk (blk_below (g := gb193) (o := .cells #[.int .i64 a1_0, .int .i64 a1_1] 25 (0, 0)) (by (with_reducible repeat (first | refine blk_drewN ?_ _ | refine blk_drew ?_ | refine blk_alloc ?_ _)); exact BK193.out) hb); have n2_ := Aside0.mk (below_step (by repeat (first | (with_reducible first | exact HB.out | apply below_alloc | apply pw_below_drewN | apply below_drew1 | refine below_set ?_ GE192.out | refine below_set ?_ GE193.out) | exact HB.out)) hb); have n3_ := Aside0.mk (hbox); have n4_ := Aside0.mk ((by rw [hg]; exact (below_size (by repeat (first | (with_reducible first | exact HB.out | apply below_alloc | apply pw_below_drewN | apply below_drew1 | refine below_set ?_ GE192.out | refine below_set ?_ GE193.out) | exact HB.out))) : w.heap.size ≤ gb194)); have n5_ := Aside0.mk ((by rw [hg]; exact (below_size (by repeat (first | (with_reducible first | exact HB.out | apply below_alloc | apply pw_below_drewN | apply below_drew1 | refine below_set ?_ GE192.out | refine below_set ?_ GE193.out) | exact HB.out))) : w.heap.size ≤ gb194)); have n6_ := Aside0.mk ((by rw [hg]; exact Nat.ne_of_lt (blk_lt (g := gb192) (o := .cells #[.string a0_0, .int .i64 a0_1, .int .i64 a0_2, .int .i64 a0_3, .int .i64 a0_4, .int .i64 a0_5, .int .i64 a0_6, .int .i64 a0_7] 23 (0, 0)) (by (with_reducible repeat (first | refine blk_drewN ?_ _ | refine blk_drew ?_ | refine blk_alloc ?_ _)); exact BK192.out)) : gb192 ≠ gb194)); have n7_ := Aside0.mk ((by rw [hg]; exact Nat.ne_of_gt (blk_lt (g := gb192) (o := .cells #[.string a0_0, .int .i64 a0_1, .int .i64 a0_2, .int .i64 a0_3, .int .i64 a0_4, .int .i64 a0_5, .int .i64 a0_6, .int .i64 a0_7] 23 (0, 0)) (by (with_reducible repeat (first | refine blk_drewN ?_ _ | refine blk_drew ?_ | refine blk_alloc ?_ _)); exact BK192.out)) : gb194 ≠ gb192)); have n8_ := Aside0.mk ((by rw [hg]; exact Nat.ne_of_lt (blk_lt (g := gb193) (o := .cells #[.int .i64 a1_0, .int .i64 a1_1] 25 (0, 0)) (by (with_reducible repeat (first | refine blk_drewN ?_ _ | refine blk_drew ?_ | refine blk_alloc ?_ _)); exact BK193.out)) : gb193 ≠ gb194)); have n9_ := Aside0.mk ((by rw [hg]; exact Nat.ne_of_gt (blk_lt (g := gb193) (o := .cells #[.int .i64 a1_0, .int .i64 a1_1] 25 (0, 0)) (by (with_reducible repeat (first | refine blk_drewN ?_ _ | refine blk_drew ?_ | refine blk_alloc ?_ _)); exact BK193.out)) : gb194 ≠ gb193)); clear BK192; clear BK193; clear HB; have BK192 := n0_; have BK193 := n1_; have HB := n2_; have BK194 := n3_; have GW194 := n4_; have GE194 := n5_; have NB192_194 := n6_; have NB194_192 := n7_; have NB193_194 := n8_; have NB194_193 := n9_; clear n0_ n1_ n2_ n3_ n4_ n5_ n6_ n7_ n8_ n9_; clear hb hbox hg; have hnb9 := NB192_193.out; have hnc9 := NB193_192.out; have hnb10 := NB192_194.out; have hnc10 := NB194_192.out; have hcz11_0 : w8.cell? ⟨gb192, 0, none⟩ = some (.string a0_0) := (blk_cell BK192.out 0).trans rfl; have hcz11_1 : w8.cell? ⟨gb192, 1, none⟩ = some (.int .i64 a0_1) := (blk_cell BK192.out 1).trans rfl; have hcz11_2 : w8.cell? ⟨gb192, 2, none⟩ = some (.int .i64 a0_2) := (blk_cell BK192.out 2).trans rfl; have hcz11_3 : w8.cell? ⟨gb192, 3, none⟩ = some (.int .i64 a0_3) := (blk_cell BK192.out 3).trans rfl; have hcz11_4 : w8.cell? ⟨gb192, 4, none⟩ = some (.int .i64 a0_4) := (blk_cell BK192.out 4).trans rfl; have hcz11_5 : w8.cell? ⟨gb192, 5, none⟩ = some (.int .i64 a0_5) := (blk_cell BK192.out 5).trans rfl; have hcz11_6 : w8.cell? ⟨gb192, 6, none⟩ = some (.int .i64 a0_6) := (blk_cell BK192.out 6).trans rfl; have hcz11_7 : w8.cell? ⟨gb192, 7, none⟩ = some (.int .i64 a0_7) := (blk_cell BK192.out 7).trans rfl; have hfz11_0 := blk_frozen BK192.out 0; have hfz11_1 := blk_frozen BK192.out 1; have hfz11_2 := blk_frozen BK192.out 2; have hfz11_3 := blk_frozen BK192.out 3; have hfz11_4 := blk_frozen BK192.out 4; have hfz11_5 := blk_frozen BK192.out 5; have hfz11_6 := blk_frozen BK192.out 6; have hfz11_7 := blk_frozen BK192.out 7; have hnb12 := NB193_194.out; have hnc12 := NB194_193.out; have hcz13_0 : w8.cell? ⟨gb193, 0, none⟩ = some (.int .i64 a1_0) := (blk_cell BK193.out 0).trans rfl; have hcz13_1 : w8.cell? ⟨gb193, 1, none⟩ = some (.int .i64 a1_1) := (blk_cell BK193.out 1).trans rfl; have hfz13_0 := blk_frozen BK193.out 0; have hfz13_1 := blk_frozen BK193.out 1) | ((with_reducible refine gate_callee (f := 13) rfl ?_); refine goesL_ (some 13) rfl rfl Tryd.func13 (by kernel_rfl) rfl #[.agg #[.string a0_0, .int .i64 a0_1, .int .i64 a0_2, .int .i64 a0_3, .int .i64 a0_4, .int .i64 a0_5, .int .i64 a0_6, .int .i64 a0_7], .agg #[.int .i64 a1_0, .int .i64 a1_1]] rfl (by (try simp only [List.map_toArray, List.map_cons, List.map_nil]); first | done | rfl | (simp only [List.length_drop, List.length_take]; rfl)) ?_; (with_reducible refine (chargeparkref24_Valid.calls k a0_0 a0_1 a0_2 a0_3 a0_4 a0_5 a0_6 a0_7 a1_0 a1_1 t195 _ A4.out).mono ?_); rintro e w14 ⟨rfl, hb⟩; refine ⟨_, rfl, ?_⟩; have n0_ := Aside0.mk (blk_below (g := gb192) (o := .cells #[.string a0_0, .int .i64 a0_1, .int .i64 a0_2, .int .i64 a0_3, .int .i64 a0_4, .int .i64 a0_5, .int .i64 a0_6, .int .i64 a0_7] 23 (0, 0)) (by (with_reducible repeat (first | refine blk_drewN ?_ _ | refine blk_drew ?_ | refine blk_alloc ?_ _)); exact BK192.out) hb); have n1_ := Aside0.mk (blk_below (g := gb193) (o := .cells #[.int .i64 a1_0, .int .i64 a1_1] 25 (0, 0)) (by (with_reducible repeat (first | refine blk_drewN ?_ _ | refine blk_drew ?_ | refine blk_alloc ?_ _)); exact BK193.out) hb); have n2_ := Aside0.mk (blk_below (g := gb194) (o := .cells #[.int .i64 0, .int .i64 0] 25 (0, 0)) (by (with_reducible repeat (first | refine blk_drewN ?_ _ | refine blk_drew ?_ | refine blk_alloc ?_ _)); exact BK194.out) hb); have n3_ := Aside0.mk (below_step (by repeat (first | (with_reducible first | exact HB.out | apply below_alloc | apply pw_below_drewN | apply below_drew1 | refine below_set ?_ GE192.out | refine below_set ?_ GE193.out | refine below_set ?_ GE194.out) | exact HB.out)) hb); clear BK192; clear BK193; clear BK194; clear HB; have BK192 := n0_; have BK193 := n1_; have BK194 := n2_; have HB := n3_; clear n0_ n1_ n2_ n3_; (try clear hb); (try clear hb2); (try clear hk); (try clear hi)))
  (try simp only [Act.put, List.setIfInBounds_toArray, List.set_cons_zero, List.set_cons_succ])
  go_cut [23] (fun v23 wc => ∃ (kq : Nat) (x23_4 : Bool), v23 = .bool x23_4 ∧ Aside0 (chargeparkref24_Next.j0 kq a2 x23_4 a0_0 a0_1 a0_2 a0_3 a0_4 a0_5 a0_6 a0_7 a1_0 a1_1 = some (r1, r2, r3)) ∧ Aside0 (kq ≤ k) ∧ Aside0 (wc.heap[gb192]? = some (.cells #[.string a0_0, .int .i64 a0_1, .int .i64 a0_2, .int .i64 a0_3, .int .i64 a0_4, .int .i64 a0_5, .int .i64 a0_6, .int .i64 a0_7] 23 (0, 0))) ∧ Aside0 (wc.heap[gb193]? = some (.cells #[.int .i64 a1_0, .int .i64 a1_1] 25 (0, 0))) ∧ Aside0 (wc.heap[gb194]? = some (.cells #[.int .i64 0, .int .i64 0] 25 (0, 0))) ∧ Aside0 (Below w.heap.size w wc))
  case first =>
    have H := HC5.out
    clear HC5
    by_cases c15 : t195 = true
    · subst c15
      have H1 : (if a2 < 0 then (chargeparkref24_Next.j0 k a2 true a0_0 a0_1 a0_2 a0_3 a0_4 a0_5 a0_6 a0_7 a1_0 a1_1) else (chargeparkref24_Next.j0 k a2 (decide (a2 > 80)) a0_0 a0_1 a0_2 a0_3 a0_4 a0_5 a0_6 a0_7 a1_0 a1_1)) = some (r1, r2, r3) := by rw [if_pos rfl] at H; exact H
      clear H
      have H := H1
      clear H1
      by_cases c16 : a2 < 0
      · rw [if_pos c16] at H
        have c16b0 : decide (a2 < 0) = true := decide_eq_true c16
        clear c16
        (first | rw [c16b0] | (simp only [i64_w, i32_w]; rw [c16b0]) | skip)
        have H' := Aside0.mk H
        clear H
        go_wp2
        go_meet
        case rel => exact ⟨_, (true), (by first | rfl | (simp; done) | (simp [*]; done)), H', ⟨by first | omega | exact Nat.le_refl _⟩, ⟨by (with_reducible repeat (first | refine blk_drewN ?_ _ | refine blk_drew ?_ | refine blk_alloc ?_ _)); exact BK192.out⟩, ⟨by (with_reducible repeat (first | refine blk_drewN ?_ _ | refine blk_drew ?_ | refine blk_alloc ?_ _)); exact BK193.out⟩, ⟨by (with_reducible repeat (first | refine blk_drewN ?_ _ | refine blk_drew ?_ | refine blk_alloc ?_ _)); exact BK194.out⟩, ⟨by repeat (first | (with_reducible first | exact HB.out | apply below_alloc | apply pw_below_drewN | apply below_drew1 | refine below_set ?_ GE192.out | refine below_set ?_ GE193.out | refine below_set ?_ GE194.out) | exact HB.out)⟩⟩
      · rw [if_neg c16] at H
        have c16b0 : decide (a2 < 0) = false := decide_eq_false c16
        clear c16
        (first | rw [c16b0] | (simp only [i64_w, i32_w]; rw [c16b0]) | skip)
        have H' := Aside0.mk H
        clear H
        go_wp2
        go_meet
        case rel => exact ⟨_, (decide (a2 > 80)), (by first | rfl | (simp; done) | (simp [*]; done)), H', ⟨by first | omega | exact Nat.le_refl _⟩, ⟨by (with_reducible repeat (first | refine blk_drewN ?_ _ | refine blk_drew ?_ | refine blk_alloc ?_ _)); exact BK192.out⟩, ⟨by (with_reducible repeat (first | refine blk_drewN ?_ _ | refine blk_drew ?_ | refine blk_alloc ?_ _)); exact BK193.out⟩, ⟨by (with_reducible repeat (first | refine blk_drewN ?_ _ | refine blk_drew ?_ | refine blk_alloc ?_ _)); exact BK194.out⟩, ⟨by repeat (first | (with_reducible first | exact HB.out | apply below_alloc | apply pw_below_drewN | apply below_drew1 | refine below_set ?_ GE192.out | refine below_set ?_ GE193.out | refine below_set ?_ GE194.out) | exact HB.out)⟩⟩
    · replace c15 := Bool.eq_false_iff.mpr c15
      subst c15
      have H1 : (chargeparkref24_Next.j0 k a2 true a0_0 a0_1 a0_2 a0_3 a0_4 a0_5 a0_6 a0_7 a1_0 a1_1) = some (r1, r2, r3) := by rw [if_neg (show ¬ (false = true) by decide)] at H; exact H
      clear H
      have H := H1
      clear H1
      have H' := Aside0.mk H
      clear H
      go_wp2
      go_meet
      case rel => exact ⟨_, (true), (by first | rfl | (simp; done) | (simp [*]; done)), H', ⟨by first | omega | exact Nat.le_refl _⟩, ⟨by (with_reducible repeat (first | refine blk_drewN ?_ _ | refine blk_drew ?_ | refine blk_alloc ?_ _)); exact BK192.out⟩, ⟨by (with_reducible repeat (first | refine blk_drewN ?_ _ | refine blk_drew ?_ | refine blk_alloc ?_ _)); exact BK193.out⟩, ⟨by (with_reducible repeat (first | refine blk_drewN ?_ _ | refine blk_drew ?_ | refine blk_alloc ?_ _)); exact BK194.out⟩, ⟨by repeat (first | (with_reducible first | exact HB.out | apply below_alloc | apply pw_below_drewN | apply below_drew1 | refine below_set ?_ GE192.out | refine below_set ?_ GE193.out | refine below_set ?_ GE194.out) | exact HB.out)⟩⟩
  case rest =>
    clear HC5
    try clear c1
    try clear p2
    try clear c9
    try clear c10
    try clear c11
    try clear c12
    try clear c13
    try clear c15
    try clear c16
    try clear c16b0
    try clear hcz11_0
    try clear hcz11_1
    try clear hcz11_2
    try clear hcz11_3
    try clear hcz11_4
    try clear hcz11_5
    try clear hcz11_6
    try clear hcz11_7
    try clear hcz13_0
    try clear hcz13_1
    try clear hfz11_0
    try clear hfz11_1
    try clear hfz11_2
    try clear hfz11_3
    try clear hfz11_4
    try clear hfz11_5
    try clear hfz11_6
    try clear hfz11_7
    try clear hfz13_0
    try clear hfz13_1
    obtain ⟨kq, x23_4, rfl, HA, HJ4, BK192, BK193, BK194, HB⟩ := hcut
    cases kq with
    | zero => exact absurd HA.out (by simp [chargeparkref24_Next.j0])
    | succ kj4 =>
      have H := HA.out
      clear HA
      simp only [chargeparkref24_Next.j0] at H
      by_cases c17 : x23_4 = true
      · subst c17
        have H1 : (some (0, 0, 1)) = some (r1, r2, r3) := by rw [if_pos rfl] at H; exact H
        clear H
        have H := H1
        clear H1
        simp only [Option.some.injEq, Prod.mk.injEq] at H
        obtain ⟨rfl, rfl, rfl⟩ := H
        have hnb18 := NB194_192.out
        have hnc18 := NB192_194.out
        have hnb19 := NB194_193.out
        have hnc19 := NB193_194.out
        have hcz20_0 : wc.cell? ⟨gb194, 0, none⟩ = some (.int .i64 0) := (blk_cell BK194.out 0).trans rfl
        have hcz20_1 : wc.cell? ⟨gb194, 1, none⟩ = some (.int .i64 0) := (blk_cell BK194.out 1).trans rfl
        have hfz20_0 := blk_frozen BK194.out 0
        have hfz20_1 := blk_frozen BK194.out 1
        go_wp2
        refine bodyPost_ret (results_ct rfl _ _ gb194 25 #[.int .i64 0, .int .i64 0] (0, 0) _ rfl (by (with_reducible repeat (first | refine blk_drewN ?_ _ | refine blk_drew ?_ | refine blk_alloc ?_ _)); refine blk_put (cs := #[.int .i64 0, .int .i64 0]) ?_ 1 _ rfl; (with_reducible repeat (first | refine blk_drewN ?_ _ | refine blk_drew ?_ | refine blk_alloc ?_ _)); refine blk_put (cs := #[.int .i64 0, .int .i64 0]) ?_ 0 _ rfl; (with_reducible repeat (first | refine blk_drewN ?_ _ | refine blk_drew ?_ | refine blk_alloc ?_ _)); exact BK194.out) Tryd.underlying25 rfl (by kernel_rfl)) rfl ?_
        exact ⟨by first | rfl | (simp [errW_none, errW_some] <;> rfl) | (simp [*, errW_none, errW_some] <;> rfl), by repeat (first | (with_reducible first | exact HB.out | apply below_alloc | apply pw_below_drewN | apply below_drew1 | refine below_set ?_ GE192.out | refine below_set ?_ GE193.out | refine below_set ?_ GE194.out) | exact HB.out)⟩
      · replace c17 := Bool.eq_false_iff.mpr c17
        subst c17
        have H1 : ((chargeparkref24_Level.f kj4 a0_0 a0_1 a0_2 a0_3 a0_4 a0_5 a0_6 a0_7 a2).bind fun t196 => (if a1_0 = 0 then (if t196 > 0 then (chargeparkref24_Next.j1 kj4 t196 (mn (wrap64 (a1_1 + 1)) 1000000) (decide (a1_1 ≥ 5)) a0_0 a0_1 a0_2 a0_3 a0_4 a0_5 a0_6 a0_7 a1_0 a1_1) else (chargeparkref24_Next.j1 kj4 t196 (mn (wrap64 (a1_1 + 1)) 1000000) false a0_0 a0_1 a0_2 a0_3 a0_4 a0_5 a0_6 a0_7 a1_0 a1_1)) else (chargeparkref24_Next.j1 kj4 t196 (mn (wrap64 (a1_1 + 1)) 1000000) false a0_0 a0_1 a0_2 a0_3 a0_4 a0_5 a0_6 a0_7 a1_0 a1_1))) = some (r1, r2, r3) := by rw [if_neg (show ¬ (false = true) by decide)] at H; exact H
        clear H
        have H := H1
        clear H1
        replace H := Option.bind_eq_some_iff.mp H
        obtain ⟨t196, A210, H⟩ := H
        replace H : (if a1_0 = 0 then (if t196 > 0 then (chargeparkref24_Next.j1 kj4 t196 (mn (wrap64 (a1_1 + 1)) 1000000) (decide (a1_1 ≥ 5)) a0_0 a0_1 a0_2 a0_3 a0_4 a0_5 a0_6 a0_7 a1_0 a1_1) else (chargeparkref24_Next.j1 kj4 t196 (mn (wrap64 (a1_1 + 1)) 1000000) false a0_0 a0_1 a0_2 a0_3 a0_4 a0_5 a0_6 a0_7 a1_0 a1_1)) else (chargeparkref24_Next.j1 kj4 t196 (mn (wrap64 (a1_1 + 1)) 1000000) false a0_0 a0_1 a0_2 a0_3 a0_4 a0_5 a0_6 a0_7 a1_0 a1_1)) = some (r1, r2, r3) := H
        have A21 := Aside0.mk A210
        clear A210
        obtain ⟨ji22, hji22⟩ : ∃ j_ : Int, (mn (wrap64 (a1_1 + 1)) 1000000) = j_ := ⟨_, rfl⟩
        replace H : (if a1_0 = 0 then (if t196 > 0 then (chargeparkref24_Next.j1 kj4 t196 ji22 (decide (a1_1 ≥ 5)) a0_0 a0_1 a0_2 a0_3 a0_4 a0_5 a0_6 a0_7 a1_0 a1_1) else (chargeparkref24_Next.j1 kj4 t196 ji22 false a0_0 a0_1 a0_2 a0_3 a0_4 a0_5 a0_6 a0_7 a1_0 a1_1)) else (chargeparkref24_Next.j1 kj4 t196 ji22 false a0_0 a0_1 a0_2 a0_3 a0_4 a0_5 a0_6 a0_7 a1_0 a1_1)) = some (r1, r2, r3) := by first | (rw [hji22] at H; exact H) | (simp only [hji22] at H ⊢; exact H)
        (try rw [hji22] at A21)
        have hji22_ : (if 1000000 < (wrap64 (a1_1 + 1)) then 1000000 else (wrap64 (a1_1 + 1))) = ji22 := hji22
        have HC23 := Aside0.mk H
        clear H
        have hnb24 := NB192_193.out
        have hnc24 := NB193_192.out
        have hnb25 := NB192_194.out
        have hnc25 := NB194_192.out
        have hcz26_0 : wc.cell? ⟨gb192, 0, none⟩ = some (.string a0_0) := (blk_cell BK192.out 0).trans rfl
        have hcz26_1 : wc.cell? ⟨gb192, 1, none⟩ = some (.int .i64 a0_1) := (blk_cell BK192.out 1).trans rfl
        have hcz26_2 : wc.cell? ⟨gb192, 2, none⟩ = some (.int .i64 a0_2) := (blk_cell BK192.out 2).trans rfl
        have hcz26_3 : wc.cell? ⟨gb192, 3, none⟩ = some (.int .i64 a0_3) := (blk_cell BK192.out 3).trans rfl
        have hcz26_4 : wc.cell? ⟨gb192, 4, none⟩ = some (.int .i64 a0_4) := (blk_cell BK192.out 4).trans rfl
        have hcz26_5 : wc.cell? ⟨gb192, 5, none⟩ = some (.int .i64 a0_5) := (blk_cell BK192.out 5).trans rfl
        have hcz26_6 : wc.cell? ⟨gb192, 6, none⟩ = some (.int .i64 a0_6) := (blk_cell BK192.out 6).trans rfl
        have hcz26_7 : wc.cell? ⟨gb192, 7, none⟩ = some (.int .i64 a0_7) := (blk_cell BK192.out 7).trans rfl
        have hfz26_0 := blk_frozen BK192.out 0
        have hfz26_1 := blk_frozen BK192.out 1
        have hfz26_2 := blk_frozen BK192.out 2
        have hfz26_3 := blk_frozen BK192.out 3
        have hfz26_4 := blk_frozen BK192.out 4
        have hfz26_5 := blk_frozen BK192.out 5
        have hfz26_6 := blk_frozen BK192.out 6
        have hfz26_7 := blk_frozen BK192.out 7
        go_upto_region 6 with (first | ((with_reducible refine gate_callee (f := 22) rfl ?_); refine goesL_ (some 27) rfl rfl Tryd.func22 (by kernel_rfl) rfl #[.agg #[.string a0_0, .int .i64 a0_1, .int .i64 a0_2, .int .i64 a0_3, .int .i64 a0_4, .int .i64 a0_5, .int .i64 a0_6, .int .i64 a0_7], .int .i64 a2] rfl (by (try simp only [List.map_toArray, List.map_cons, List.map_nil]); first | done | rfl | (simp only [List.length_drop, List.length_take]; rfl)) ?_; (with_reducible refine (chargeparkref24_Level.calls kj4 a0_0 a0_1 a0_2 a0_3 a0_4 a0_5 a0_6 a0_7 a2 t196 _ A21.out).mono ?_); rintro e w27 ⟨rfl, hb⟩; refine ⟨_, rfl, ?_⟩; have n0_ := Aside0.mk (blk_below (g := gb192) (o := .cells #[.string a0_0, .int .i64 a0_1, .int .i64 a0_2, .int .i64 a0_3, .int .i64 a0_4, .int .i64 a0_5, .int .i64 a0_6, .int .i64 a0_7] 23 (0, 0)) (by (with_reducible repeat (first | refine blk_drewN ?_ _ | refine blk_drew ?_ | refine blk_alloc ?_ _)); exact BK192.out) hb); have n1_ := Aside0.mk (blk_below (g := gb193) (o := .cells #[.int .i64 a1_0, .int .i64 a1_1] 25 (0, 0)) (by (with_reducible repeat (first | refine blk_drewN ?_ _ | refine blk_drew ?_ | refine blk_alloc ?_ _)); exact BK193.out) hb); have n2_ := Aside0.mk (blk_below (g := gb194) (o := .cells #[.int .i64 0, .int .i64 0] 25 (0, 0)) (by (with_reducible repeat (first | refine blk_drewN ?_ _ | refine blk_drew ?_ | refine blk_alloc ?_ _)); exact BK194.out) hb); have n3_ := Aside0.mk (below_step (by repeat (first | (with_reducible first | exact HB.out | apply below_alloc | apply pw_below_drewN | apply below_drew1 | refine below_set ?_ GE192.out | refine below_set ?_ GE193.out | refine below_set ?_ GE194.out) | exact HB.out)) hb); clear BK192; clear BK193; clear BK194; clear HB; have BK192 := n0_; have BK193 := n1_; have BK194 := n2_; have HB := n3_; clear n0_ n1_ n2_ n3_; (try clear hb); (try clear hb2); (try clear hk); (try clear hi); have hnb28 := NB193_194.out; have hnc28 := NB194_193.out; have hcz29_0 : w27.cell? ⟨gb193, 0, none⟩ = some (.int .i64 a1_0) := (blk_cell BK193.out 0).trans rfl; have hcz29_1 : w27.cell? ⟨gb193, 1, none⟩ = some (.int .i64 a1_1) := (blk_cell BK193.out 1).trans rfl; have hfz29_0 := blk_frozen BK193.out 0; have hfz29_1 := blk_frozen BK193.out 1))
        (try simp only [Act.put, List.setIfInBounds_toArray, List.set_cons_zero, List.set_cons_succ])
        go_cut [43] (fun v43 wc => ∃ (kq : Nat) (x43_22 : Bool), v43 = .bool x43_22 ∧ Aside0 (chargeparkref24_Next.j1 kq t196 ji22 x43_22 a0_0 a0_1 a0_2 a0_3 a0_4 a0_5 a0_6 a0_7 a1_0 a1_1 = some (r1, r2, r3)) ∧ Aside0 (kq ≤ kj4) ∧ Aside0 (wc.heap[gb192]? = some (.cells #[.string a0_0, .int .i64 a0_1, .int .i64 a0_2, .int .i64 a0_3, .int .i64 a0_4, .int .i64 a0_5, .int .i64 a0_6, .int .i64 a0_7] 23 (0, 0))) ∧ Aside0 (wc.heap[gb193]? = some (.cells #[.int .i64 a1_0, .int .i64 a1_1] 25 (0, 0))) ∧ Aside0 (wc.heap[gb194]? = some (.cells #[.int .i64 0, .int .i64 0] 25 (0, 0))) ∧ Aside0 (Below w.heap.size w wc))
        case first =>
          have H := HC23.out
          clear HC23
          by_cases c30 : a1_0 = 0
          · rw [if_pos c30] at H
            have c30b0 : (a1_0 == 0) = true := beq_iff_eq.mpr c30
            have c30b1 : (a1_0 != 0) = false := bne_eq_false_iff_eq.mpr c30
            clear c30
            (first | rw [c30b0] | (simp only [i64_w, i32_w]; rw [c30b0]) | skip)
            by_cases c31 : t196 > 0
            · rw [if_pos c31] at H
              have c31b0 : decide (0 < t196) = true := decide_eq_true c31
              clear c31
              have H' := Aside0.mk H
              clear H
              have hnb32 := NB193_192.out
              have hnc32 := NB192_193.out
              have hnb33 := NB193_194.out
              have hnc33 := NB194_193.out
              have hcz34_0 : w27.cell? ⟨gb193, 0, none⟩ = some (.int .i64 a1_0) := (blk_cell BK193.out 0).trans rfl
              have hcz34_1 : w27.cell? ⟨gb193, 1, none⟩ = some (.int .i64 a1_1) := (blk_cell BK193.out 1).trans rfl
              have hfz34_0 := blk_frozen BK193.out 0
              have hfz34_1 := blk_frozen BK193.out 1
              go_wp2
              go_meet
              case rel => exact ⟨_, (decide (a1_1 ≥ 5)), (by first | rfl | (simp; done) | (simp [*]; done)), H', ⟨by have := HJ4.out; first | omega | exact Nat.le_refl _⟩, ⟨by (with_reducible repeat (first | refine blk_drewN ?_ _ | refine blk_drew ?_ | refine blk_alloc ?_ _)); exact BK192.out⟩, ⟨by (with_reducible repeat (first | refine blk_drewN ?_ _ | refine blk_drew ?_ | refine blk_alloc ?_ _)); exact BK193.out⟩, ⟨by (with_reducible repeat (first | refine blk_drewN ?_ _ | refine blk_drew ?_ | refine blk_alloc ?_ _)); exact BK194.out⟩, ⟨by repeat (first | (with_reducible first | exact HB.out | apply below_alloc | apply pw_below_drewN | apply below_drew1 | refine below_set ?_ GE192.out | refine below_set ?_ GE193.out | refine below_set ?_ GE194.out) | exact HB.out)⟩⟩
            · rw [if_neg c31] at H
              have c31b0 : decide (0 < t196) = false := decide_eq_false c31
              clear c31
              have H' := Aside0.mk H
              clear H
              have hnb35 := NB193_192.out
              have hnc35 := NB192_193.out
              have hnb36 := NB193_194.out
              have hnc36 := NB194_193.out
              have hcz37_0 : w27.cell? ⟨gb193, 0, none⟩ = some (.int .i64 a1_0) := (blk_cell BK193.out 0).trans rfl
              have hcz37_1 : w27.cell? ⟨gb193, 1, none⟩ = some (.int .i64 a1_1) := (blk_cell BK193.out 1).trans rfl
              have hfz37_0 := blk_frozen BK193.out 0
              have hfz37_1 := blk_frozen BK193.out 1
              go_wp2
              go_meet
              case rel => exact ⟨_, (false), (by first | rfl | (simp; done) | (simp [*]; done)), H', ⟨by have := HJ4.out; first | omega | exact Nat.le_refl _⟩, ⟨by (with_reducible repeat (first | refine blk_drewN ?_ _ | refine blk_drew ?_ | refine blk_alloc ?_ _)); exact BK192.out⟩, ⟨by (with_reducible repeat (first | refine blk_drewN ?_ _ | refine blk_drew ?_ | refine blk_alloc ?_ _)); exact BK193.out⟩, ⟨by (with_reducible repeat (first | refine blk_drewN ?_ _ | refine blk_drew ?_ | refine blk_alloc ?_ _)); exact BK194.out⟩, ⟨by repeat (first | (with_reducible first | exact HB.out | apply below_alloc | apply pw_below_drewN | apply below_drew1 | refine below_set ?_ GE192.out | refine below_set ?_ GE193.out | refine below_set ?_ GE194.out) | exact HB.out)⟩⟩
          · rw [if_neg c30] at H
            have c30b0 : (a1_0 == 0) = false := beq_eq_false_iff_ne.mpr c30
            have c30b1 : (a1_0 != 0) = true := bne_iff_ne.mpr c30
            (first | rw [c30b0] | (simp only [i64_w, i32_w]; rw [c30b0]) | skip)
            have H' := Aside0.mk H
            clear H
            have hnb38 := NB193_192.out
            have hnc38 := NB192_193.out
            have hnb39 := NB193_194.out
            have hnc39 := NB194_193.out
            have hcz40_0 : w27.cell? ⟨gb193, 0, none⟩ = some (.int .i64 a1_0) := (blk_cell BK193.out 0).trans rfl
            have hcz40_1 : w27.cell? ⟨gb193, 1, none⟩ = some (.int .i64 a1_1) := (blk_cell BK193.out 1).trans rfl
            have hfz40_0 := blk_frozen BK193.out 0
            have hfz40_1 := blk_frozen BK193.out 1
            go_wp2
            go_meet
            case rel => exact ⟨_, (false), (by first | rfl | (simp; done) | (simp [*]; done)), H', ⟨by have := HJ4.out; first | omega | exact Nat.le_refl _⟩, ⟨by (with_reducible repeat (first | refine blk_drewN ?_ _ | refine blk_drew ?_ | refine blk_alloc ?_ _)); exact BK192.out⟩, ⟨by (with_reducible repeat (first | refine blk_drewN ?_ _ | refine blk_drew ?_ | refine blk_alloc ?_ _)); exact BK193.out⟩, ⟨by (with_reducible repeat (first | refine blk_drewN ?_ _ | refine blk_drew ?_ | refine blk_alloc ?_ _)); exact BK194.out⟩, ⟨by repeat (first | (with_reducible first | exact HB.out | apply below_alloc | apply pw_below_drewN | apply below_drew1 | refine below_set ?_ GE192.out | refine below_set ?_ GE193.out | refine below_set ?_ GE194.out) | exact HB.out)⟩⟩
        case rest =>
          clear HC23
          try clear c1
          try clear c2
          try clear p2
          try clear c3
          try clear p6
          try clear c9
          try clear c10
          try clear c11
          try clear c12
          try clear c13
          try clear c15
          try clear c16
          try clear c16b0
          try clear c17
          try clear c18
          try clear c19
          try clear c22
          try clear c24
          try clear c25
          try clear c28
          try clear c30
          try clear c30b0
          try clear c30b1
          try clear c31
          try clear c31b0
          try clear c32
          try clear c33
          try clear c35
          try clear c36
          try clear c38
          try clear c39
          try clear hcz11_0
          try clear hcz11_1
          try clear hcz11_2
          try clear hcz11_3
          try clear hcz11_4
          try clear hcz11_5
          try clear hcz11_6
          try clear hcz11_7
          try clear hcz13_0
          try clear hcz13_1
          try clear hcz20_0
          try clear hcz20_1
          try clear hcz26_0
          try clear hcz26_1
          try clear hcz26_2
          try clear hcz26_3
          try clear hcz26_4
          try clear hcz26_5
          try clear hcz26_6
          try clear hcz26_7
          try clear hcz29_0
          try clear hcz29_1
          try clear hcz34_0
          try clear hcz34_1
          try clear hcz37_0
          try clear hcz37_1
          try clear hcz40_0
          try clear hcz40_1
          try clear hfz11_0
          try clear hfz11_1
          try clear hfz11_2
          try clear hfz11_3
          try clear hfz11_4
          try clear hfz11_5
          try clear hfz11_6
          try clear hfz11_7
          try clear hfz13_0
          try clear hfz13_1
          try clear hfz20_0
          try clear hfz20_1
          try clear hfz26_0
          try clear hfz26_1
          try clear hfz26_2
          try clear hfz26_3
          try clear hfz26_4
          try clear hfz26_5
          try clear hfz26_6
          try clear hfz26_7
          try clear hfz29_0
          try clear hfz29_1
          try clear hfz34_0
          try clear hfz34_1
          try clear hfz37_0
          try clear hfz37_1
          try clear hfz40_0
          try clear hfz40_1
          try clear p2
          obtain ⟨kq, x43_22, rfl, HA, HJ22, BK192, BK193, BK194, HB⟩ := hcut
          cases kq with
          | zero => exact absurd HA.out (by simp [chargeparkref24_Next.j1])
          | succ kj22 =>
            have H := HA.out
            clear HA
            simp only [chargeparkref24_Next.j1] at H
            by_cases c41 : x43_22 = true
            · subst c41
              have H1 : (some (a0_3, 0, 0)) = some (r1, r2, r3) := by rw [if_pos rfl] at H; exact H
              clear H
              have H := H1
              clear H1
              simp only [Option.some.injEq, Prod.mk.injEq] at H
              obtain ⟨rfl, rfl, rfl⟩ := H
              have hnb42 := NB192_193.out
              have hnc42 := NB193_192.out
              have hnb43 := NB192_194.out
              have hnc43 := NB194_192.out
              have hcz44_0 : wc.cell? ⟨gb192, 0, none⟩ = some (.string a0_0) := (blk_cell BK192.out 0).trans rfl
              have hcz44_1 : wc.cell? ⟨gb192, 1, none⟩ = some (.int .i64 a0_1) := (blk_cell BK192.out 1).trans rfl
              have hcz44_2 : wc.cell? ⟨gb192, 2, none⟩ = some (.int .i64 a0_2) := (blk_cell BK192.out 2).trans rfl
              have hcz44_3 : wc.cell? ⟨gb192, 3, none⟩ = some (.int .i64 a0_3) := (blk_cell BK192.out 3).trans rfl
              have hcz44_4 : wc.cell? ⟨gb192, 4, none⟩ = some (.int .i64 a0_4) := (blk_cell BK192.out 4).trans rfl
              have hcz44_5 : wc.cell? ⟨gb192, 5, none⟩ = some (.int .i64 a0_5) := (blk_cell BK192.out 5).trans rfl
              have hcz44_6 : wc.cell? ⟨gb192, 6, none⟩ = some (.int .i64 a0_6) := (blk_cell BK192.out 6).trans rfl
              have hcz44_7 : wc.cell? ⟨gb192, 7, none⟩ = some (.int .i64 a0_7) := (blk_cell BK192.out 7).trans rfl
              have hfz44_0 := blk_frozen BK192.out 0
              have hfz44_1 := blk_frozen BK192.out 1
              have hfz44_2 := blk_frozen BK192.out 2
              have hfz44_3 := blk_frozen BK192.out 3
              have hfz44_4 := blk_frozen BK192.out 4
              have hfz44_5 := blk_frozen BK192.out 5
              have hfz44_6 := blk_frozen BK192.out 6
              have hfz44_7 := blk_frozen BK192.out 7
              have hnb45 := NB194_193.out
              have hnc45 := NB193_194.out
              have hcz46_0 : wc.cell? ⟨gb194, 0, none⟩ = some (.int .i64 0) := (blk_cell BK194.out 0).trans rfl
              have hcz46_1 : wc.cell? ⟨gb194, 1, none⟩ = some (.int .i64 0) := (blk_cell BK194.out 1).trans rfl
              have hfz46_0 := blk_frozen BK194.out 0
              have hfz46_1 := blk_frozen BK194.out 1
              go_wp2
              refine bodyPost_ret (results_ct rfl _ _ gb194 25 #[.int .i64 a0_3, .int .i64 0] (0, 0) _ rfl (by (with_reducible repeat (first | refine blk_drewN ?_ _ | refine blk_drew ?_ | refine blk_alloc ?_ _)); refine blk_put (cs := #[.int .i64 a0_3, .int .i64 0]) ?_ 1 _ rfl; (with_reducible repeat (first | refine blk_drewN ?_ _ | refine blk_drew ?_ | refine blk_alloc ?_ _)); refine blk_put (cs := #[.int .i64 0, .int .i64 0]) ?_ 0 _ rfl; (with_reducible repeat (first | refine blk_drewN ?_ _ | refine blk_drew ?_ | refine blk_alloc ?_ _)); exact BK194.out) Tryd.underlying25 rfl (by kernel_rfl)) rfl ?_
              exact ⟨by first | rfl | (simp [errW_none, errW_some] <;> rfl) | (simp only [← hji22]; first | rfl | (simp [errW_none, errW_some] <;> rfl)) | (simp [*, errW_none, errW_some] <;> rfl), by repeat (first | (with_reducible first | exact HB.out | apply below_alloc | apply pw_below_drewN | apply below_drew1 | refine below_set ?_ GE192.out | refine below_set ?_ GE193.out | refine below_set ?_ GE194.out) | exact HB.out)⟩
            · replace c41 := Bool.eq_false_iff.mpr c41
              subst c41
              have H1 : (if a1_0 = 0 then (some (0, ji22, 0)) else (if t196 = 0 then (some (0, 0, 0)) else (some (mn t196 (wrap64 (a1_0 + a0_5)), ji22, 0)))) = some (r1, r2, r3) := by rw [if_neg (show ¬ (false = true) by decide)] at H; exact H
              clear H
              have H := H1
              clear H1
              by_cases c47 : a1_0 = 0
              · rw [if_pos c47] at H
                have c47b0 : (a1_0 == 0) = true := beq_iff_eq.mpr c47
                have c47b1 : (a1_0 != 0) = false := bne_eq_false_iff_eq.mpr c47
                clear c47
                simp only [Option.some.injEq, Prod.mk.injEq] at H
                obtain ⟨rfl, rfl, rfl⟩ := H
                have hnb48 := NB193_192.out
                have hnc48 := NB192_193.out
                have hnb49 := NB193_194.out
                have hnc49 := NB194_193.out
                have hcz50_0 : wc.cell? ⟨gb193, 0, none⟩ = some (.int .i64 a1_0) := (blk_cell BK193.out 0).trans rfl
                have hcz50_1 : wc.cell? ⟨gb193, 1, none⟩ = some (.int .i64 a1_1) := (blk_cell BK193.out 1).trans rfl
                have hfz50_0 := blk_frozen BK193.out 0
                have hfz50_1 := blk_frozen BK193.out 1
                have hnb51 := NB194_192.out
                have hnc51 := NB192_194.out
                have hcz52_0 : wc.cell? ⟨gb194, 0, none⟩ = some (.int .i64 0) := (blk_cell BK194.out 0).trans rfl
                have hcz52_1 : wc.cell? ⟨gb194, 1, none⟩ = some (.int .i64 0) := (blk_cell BK194.out 1).trans rfl
                have hfz52_0 := blk_frozen BK194.out 0
                have hfz52_1 := blk_frozen BK194.out 1
                go_wp2
                refine bodyPost_ret (results_ct rfl _ _ gb194 25 #[.int .i64 0, .int .i64 ji22] (0, 0) _ rfl (by (with_reducible repeat (first | refine blk_drewN ?_ _ | refine blk_drew ?_ | refine blk_alloc ?_ _)); refine blk_put (cs := #[.int .i64 0, .int .i64 0]) ?_ 1 _ rfl; (with_reducible repeat (first | refine blk_drewN ?_ _ | refine blk_drew ?_ | refine blk_alloc ?_ _)); refine blk_put (cs := #[.int .i64 0, .int .i64 0]) ?_ 0 _ rfl; (with_reducible repeat (first | refine blk_drewN ?_ _ | refine blk_drew ?_ | refine blk_alloc ?_ _)); exact BK194.out) Tryd.underlying25 rfl (by kernel_rfl)) rfl ?_
                exact ⟨by first | rfl | (simp [errW_none, errW_some] <;> rfl) | (simp only [← hji22]; first | rfl | (simp [errW_none, errW_some] <;> rfl)) | (simp [*, errW_none, errW_some] <;> rfl), by repeat (first | (with_reducible first | exact HB.out | apply below_alloc | apply pw_below_drewN | apply below_drew1 | refine below_set ?_ GE192.out | refine below_set ?_ GE193.out | refine below_set ?_ GE194.out) | exact HB.out)⟩
              · rw [if_neg c47] at H
                have c47b0 : (a1_0 == 0) = false := beq_eq_false_iff_ne.mpr c47
                have c47b1 : (a1_0 != 0) = true := bne_iff_ne.mpr c47
                by_cases c53 : t196 = 0
                · rw [if_pos c53] at H
                  have c53b0 : (t196 == 0) = true := beq_iff_eq.mpr c53
                  have c53b1 : (t196 != 0) = false := bne_eq_false_iff_eq.mpr c53
                  clear c53
                  simp only [Option.some.injEq, Prod.mk.injEq] at H
                  obtain ⟨rfl, rfl, rfl⟩ := H
                  have hnb54 := NB193_192.out
                  have hnc54 := NB192_193.out
                  have hnb55 := NB193_194.out
                  have hnc55 := NB194_193.out
                  have hcz56_0 : wc.cell? ⟨gb193, 0, none⟩ = some (.int .i64 a1_0) := (blk_cell BK193.out 0).trans rfl
                  have hcz56_1 : wc.cell? ⟨gb193, 1, none⟩ = some (.int .i64 a1_1) := (blk_cell BK193.out 1).trans rfl
                  have hfz56_0 := blk_frozen BK193.out 0
                  have hfz56_1 := blk_frozen BK193.out 1
                  have hnb57 := NB194_192.out
                  have hnc57 := NB192_194.out
                  have hcz58_0 : wc.cell? ⟨gb194, 0, none⟩ = some (.int .i64 0) := (blk_cell BK194.out 0).trans rfl
                  have hcz58_1 : wc.cell? ⟨gb194, 1, none⟩ = some (.int .i64 0) := (blk_cell BK194.out 1).trans rfl
                  have hfz58_0 := blk_frozen BK194.out 0
                  have hfz58_1 := blk_frozen BK194.out 1
                  go_wp2
                  refine bodyPost_ret (results_ct rfl _ _ gb194 25 #[.int .i64 0, .int .i64 0] (0, 0) _ rfl (by (with_reducible repeat (first | refine blk_drewN ?_ _ | refine blk_drew ?_ | refine blk_alloc ?_ _)); refine blk_put (cs := #[.int .i64 0, .int .i64 0]) ?_ 1 _ rfl; (with_reducible repeat (first | refine blk_drewN ?_ _ | refine blk_drew ?_ | refine blk_alloc ?_ _)); refine blk_put (cs := #[.int .i64 0, .int .i64 0]) ?_ 0 _ rfl; (with_reducible repeat (first | refine blk_drewN ?_ _ | refine blk_drew ?_ | refine blk_alloc ?_ _)); exact BK194.out) Tryd.underlying25 rfl (by kernel_rfl)) rfl ?_
                  exact ⟨by first | rfl | (simp [errW_none, errW_some] <;> rfl) | (simp only [← hji22]; first | rfl | (simp [errW_none, errW_some] <;> rfl)) | (simp [*, errW_none, errW_some] <;> rfl), by repeat (first | (with_reducible first | exact HB.out | apply below_alloc | apply pw_below_drewN | apply below_drew1 | refine below_set ?_ GE192.out | refine below_set ?_ GE193.out | refine below_set ?_ GE194.out) | exact HB.out)⟩
                · rw [if_neg c53] at H
                  have c53b0 : (t196 == 0) = false := beq_eq_false_iff_ne.mpr c53
                  have c53b1 : (t196 != 0) = true := bne_iff_ne.mpr c53
                  obtain ⟨ji59, hji59⟩ : ∃ j_ : Int, (mn t196 (wrap64 (a1_0 + a0_5))) = j_ := ⟨_, rfl⟩
                  replace H : (some (ji59, ji22, 0)) = some (r1, r2, r3) := by first | (rw [hji59] at H; exact H) | (simp only [hji59] at H ⊢; exact H)
                  have hji59_ : (if (wrap64 (a1_0 + a0_5)) < t196 then (wrap64 (a1_0 + a0_5)) else t196) = ji59 := hji59
                  simp only [Option.some.injEq, Prod.mk.injEq] at H
                  obtain ⟨rfl, rfl, rfl⟩ := H
                  have hnb60 := NB193_192.out
                  have hnc60 := NB192_193.out
                  have hnb61 := NB193_194.out
                  have hnc61 := NB194_193.out
                  have hcz62_0 : wc.cell? ⟨gb193, 0, none⟩ = some (.int .i64 a1_0) := (blk_cell BK193.out 0).trans rfl
                  have hcz62_1 : wc.cell? ⟨gb193, 1, none⟩ = some (.int .i64 a1_1) := (blk_cell BK193.out 1).trans rfl
                  have hfz62_0 := blk_frozen BK193.out 0
                  have hfz62_1 := blk_frozen BK193.out 1
                  have hnb63 := NB192_194.out
                  have hnc63 := NB194_192.out
                  have hcz64_0 : wc.cell? ⟨gb192, 0, none⟩ = some (.string a0_0) := (blk_cell BK192.out 0).trans rfl
                  have hcz64_1 : wc.cell? ⟨gb192, 1, none⟩ = some (.int .i64 a0_1) := (blk_cell BK192.out 1).trans rfl
                  have hcz64_2 : wc.cell? ⟨gb192, 2, none⟩ = some (.int .i64 a0_2) := (blk_cell BK192.out 2).trans rfl
                  have hcz64_3 : wc.cell? ⟨gb192, 3, none⟩ = some (.int .i64 a0_3) := (blk_cell BK192.out 3).trans rfl
                  have hcz64_4 : wc.cell? ⟨gb192, 4, none⟩ = some (.int .i64 a0_4) := (blk_cell BK192.out 4).trans rfl
                  have hcz64_5 : wc.cell? ⟨gb192, 5, none⟩ = some (.int .i64 a0_5) := (blk_cell BK192.out 5).trans rfl
                  have hcz64_6 : wc.cell? ⟨gb192, 6, none⟩ = some (.int .i64 a0_6) := (blk_cell BK192.out 6).trans rfl
                  have hcz64_7 : wc.cell? ⟨gb192, 7, none⟩ = some (.int .i64 a0_7) := (blk_cell BK192.out 7).trans rfl
                  have hfz64_0 := blk_frozen BK192.out 0
                  have hfz64_1 := blk_frozen BK192.out 1
                  have hfz64_2 := blk_frozen BK192.out 2
                  have hfz64_3 := blk_frozen BK192.out 3
                  have hfz64_4 := blk_frozen BK192.out 4
                  have hfz64_5 := blk_frozen BK192.out 5
                  have hfz64_6 := blk_frozen BK192.out 6
                  have hfz64_7 := blk_frozen BK192.out 7
                  have hcz65_0 : wc.cell? ⟨gb194, 0, none⟩ = some (.int .i64 0) := (blk_cell BK194.out 0).trans rfl
                  have hcz65_1 : wc.cell? ⟨gb194, 1, none⟩ = some (.int .i64 0) := (blk_cell BK194.out 1).trans rfl
                  have hfz65_0 := blk_frozen BK194.out 0
                  have hfz65_1 := blk_frozen BK194.out 1
                  go_wp2
                  refine bodyPost_ret (results_ct rfl _ _ gb194 25 #[.int .i64 ji59, .int .i64 ji22] (0, 0) _ rfl (by (with_reducible repeat (first | refine blk_drewN ?_ _ | refine blk_drew ?_ | refine blk_alloc ?_ _)); refine blk_put (cs := #[.int .i64 ji59, .int .i64 0]) ?_ 1 _ rfl; (with_reducible repeat (first | refine blk_drewN ?_ _ | refine blk_drew ?_ | refine blk_alloc ?_ _)); refine blk_put (cs := #[.int .i64 0, .int .i64 0]) ?_ 0 _ rfl; (with_reducible repeat (first | refine blk_drewN ?_ _ | refine blk_drew ?_ | refine blk_alloc ?_ _)); exact BK194.out) Tryd.underlying25 rfl (by kernel_rfl)) rfl ?_
                  exact ⟨by first | rfl | (simp [errW_none, errW_some] <;> rfl) | (simp only [← hji22, ← hji59]; first | rfl | (simp [errW_none, errW_some] <;> rfl)) | (simp [*, errW_none, errW_some] <;> rfl), by repeat (first | (with_reducible first | exact HB.out | apply below_alloc | apply pw_below_drewN | apply below_drew1 | refine below_set ?_ GE192.out | refine below_set ?_ GE193.out | refine below_set ?_ GE194.out) | exact HB.out)⟩

/-! ### chargeparklaw24_RampMatchesReference: function 3 -/
def chargeparklaw24_RampMatchesReference.f (k : Nat) (a0_0 : ByteArray) (a0_1 : Int) (a0_2 : Int) (a0_3 : Int) (a0_4 : Int) (a0_5 : Int) (a0_6 : Int) (a0_7 : Int) (a1_0 : Int) (a1_1 : Int) (a2 : Int) : Option (Bool) := (chargeparklaw24_head_c.f).bind fun _ => ((ramp_Next.f a0_0 a0_1 a0_2 a0_3 a0_4 a0_5 a0_6 a0_7 a1_0 a1_1 a2).bind fun bt199 => ((chargeparkref24_Next.f k a0_0 a0_1 a0_2 a0_3 a0_4 a0_5 a0_6 a0_7 a1_0 a1_1 a2).bind fun bt203 => (if (bt199.1 == bt203.1 && (bt199.2.1 == bt203.2.1)) = true then (if bt199.2.2 = bt203.2.2 then ((ramp_Valid.f a0_0 a0_1 a0_2 a0_3 a0_4 a0_5 a0_6 a0_7 a1_0 a1_1).bind fun t207 => ((chargeparkref24_Valid.f k a0_0 a0_1 a0_2 a0_3 a0_4 a0_5 a0_6 a0_7 a1_0 a1_1).bind fun t208 => (some (t207 == t208)))) else (some false)) else (some false))))
theorem chargeparklaw24_RampMatchesReference.mono : ∀ a0 a1 a2 a3 a4 a5 a6 a7 a8 a9 a10 k, LeO (chargeparklaw24_RampMatchesReference.f k a0 a1 a2 a3 a4 a5 a6 a7 a8 a9 a10) (chargeparklaw24_RampMatchesReference.f (k + 1) a0 a1 a2 a3 a4 a5 a6 a7 a8 a9 a10) := by
  intro a0 a1 a2 a3 a4 a5 a6 a7 a8 a9 a10 k
  unfold chargeparklaw24_RampMatchesReference.f
  repeat' first
      | (with_reducible exact chargeparkref24_Next.mono _ _ _ _ _ _ _ _ _ _ _ _)
      | (with_reducible exact chargeparkref24_Valid.mono _ _ _ _ _ _ _ _ _ _ _)
      | (with_reducible exact LeO.refl _)
      | (with_reducible exact LeO.none _)
      | (with_reducible refine LeO.ite ?_ ?_)
      | (with_reducible refine LeO.bind ?_ (fun _ => ?_))
      | exact chargeparkref24_Next.mono _ _ _ _ _ _ _ _ _ _ _ _
      | exact chargeparkref24_Valid.mono _ _ _ _ _ _ _ _ _ _ _
      | exact LeO.none _
      | refine LeO.ite ?_ ?_
      | refine LeO.bind ?_ (fun _ => ?_)
def chargeparklaw24_RampMatchesReference.T4 : Bool × List (List Nat × List Nat) := (true, [([], []), ([0], [0]), ([1], [1]), ([1], [1]), ([2, 3, 1], [1, 2, 3]), ([1, 4], [1, 4]), ([5, 1], [5]), ([6], [6]), ([6], [6]), ([7, 8, 6], [6, 7, 8]), ([6, 9], [6, 9]), ([10, 6], [10]), ([11], [11]), ([11], [11]), ([12, 13, 11, 11], [11, 12, 13]), ([11], [11]), ([11], [11]), ([15, 16, 14, 11], [11, 15, 16]), ([14, 17, 11], [11, 14, 17]), ([11, 18], [11, 18]), ([19, 17, 0, 1, 2, 3, 4, 5, 6, 7, 8, 9, 10, 11, 12, 13, 14, 15, 16, 17, 18, 19], [19])])
def chargeparklaw24_RampMatchesReference.B4 : List Nat := [0, 1, 3, 3, 15, 31, 63, 127, 127, 511, 1023, 2047, 4095, 4095, 16383, 4095, 4095, 131071, 262143, 524287, 1048575]
theorem chargeparklaw24_RampMatchesReference.tab4 : rtab .any (opsOf Tryd.f3 4) = chargeparklaw24_RampMatchesReference.T4 := by kernel_rfl
theorem chargeparklaw24_RampMatchesReference.bits4 : waitsOk chargeparklaw24_RampMatchesReference.T4.2 chargeparklaw24_RampMatchesReference.B4 = true := by kernel_rfl
set_option maxHeartbeats 8000000 in
set_option maxRecDepth 100000 in
theorem chargeparklaw24_RampMatchesReference.calls (k : Nat) (a0_0 : ByteArray) (a0_1 : Int) (a0_2 : Int) (a0_3 : Int) (a0_4 : Int) (a0_5 : Int) (a0_6 : Int) (a0_7 : Int) (a1_0 : Int) (a1_1 : Int) (a2 : Int) (r : Bool) (w : World) (hG : Hand.G w) (h : chargeparklaw24_RampMatchesReference.f k a0_0 a0_1 a0_2 a0_3 a0_4 a0_5 a0_6 a0_7 a1_0 a1_1 a2 = some r) (hr : Aside0 (r = true)) :
    Calls Tryd.prog 3 #[.agg #[.string a0_0, .int .i64 a0_1, .int .i64 a0_2, .int .i64 a0_3, .int .i64 a0_4, .int .i64 a0_5, .int .i64 a0_6, .int .i64 a0_7], .agg #[.int .i64 a1_0, .int .i64 a1_1], .int .i64 a2] w fun e w' => e = .returned (.bool r) ∧ Below w.heap.size w w' := by
  have hu23 := Tryd.underlying23
  have hu25 := Tryd.underlying25
  have HB := Aside0.mk (Below.refl w.heap.size w)
  have H : ((chargeparklaw24_head_c.f).bind fun _ => ((ramp_Next.f a0_0 a0_1 a0_2 a0_3 a0_4 a0_5 a0_6 a0_7 a1_0 a1_1 a2).bind fun bt199 => ((chargeparkref24_Next.f k a0_0 a0_1 a0_2 a0_3 a0_4 a0_5 a0_6 a0_7 a1_0 a1_1 a2).bind fun bt203 => (if (bt199.1 == bt203.1 && (bt199.2.1 == bt203.2.1)) = true then (if bt199.2.2 = bt203.2.2 then ((ramp_Valid.f a0_0 a0_1 a0_2 a0_3 a0_4 a0_5 a0_6 a0_7 a1_0 a1_1).bind fun t207 => ((chargeparkref24_Valid.f k a0_0 a0_1 a0_2 a0_3 a0_4 a0_5 a0_6 a0_7 a1_0 a1_1).bind fun t208 => (some (t207 == t208)))) else (some false)) else (some false))))) = some r := h
  clear h
  replace H := Option.bind_eq_some_iff.mp H
  obtain ⟨tc_, A40, H⟩ := H
  obtain rfl : true = tc_ := Option.some.inj ((show chargeparklaw24_head_c.f = some true by kernel_rfl).symm.trans A40)
  replace H : ((ramp_Next.f a0_0 a0_1 a0_2 a0_3 a0_4 a0_5 a0_6 a0_7 a1_0 a1_1 a2).bind fun bt199 => ((chargeparkref24_Next.f k a0_0 a0_1 a0_2 a0_3 a0_4 a0_5 a0_6 a0_7 a1_0 a1_1 a2).bind fun bt203 => (if (bt199.1 == bt203.1 && (bt199.2.1 == bt203.2.1)) = true then (if bt199.2.2 = bt203.2.2 then ((ramp_Valid.f a0_0 a0_1 a0_2 a0_3 a0_4 a0_5 a0_6 a0_7 a1_0 a1_1).bind fun t207 => ((chargeparkref24_Valid.f k a0_0 a0_1 a0_2 a0_3 a0_4 a0_5 a0_6 a0_7 a1_0 a1_1).bind fun t208 => (some (t207 == t208)))) else (some false)) else (some false)))) = some r := H
  have A4 := Aside0.mk A40
  clear A40
  replace H := Option.bind_eq_some_iff.mp H
  obtain ⟨⟨t199, t200, t201⟩, A50, H⟩ := H
  replace H : ((chargeparkref24_Next.f k a0_0 a0_1 a0_2 a0_3 a0_4 a0_5 a0_6 a0_7 a1_0 a1_1 a2).bind fun bt203 => (if (t199 == bt203.1 && (t200 == bt203.2.1)) = true then (if t201 = bt203.2.2 then ((ramp_Valid.f a0_0 a0_1 a0_2 a0_3 a0_4 a0_5 a0_6 a0_7 a1_0 a1_1).bind fun t207 => ((chargeparkref24_Valid.f k a0_0 a0_1 a0_2 a0_3 a0_4 a0_5 a0_6 a0_7 a1_0 a1_1).bind fun t208 => (some (t207 == t208)))) else (some false)) else (some false))) = some r := H
  have A5 := Aside0.mk A50
  clear A50
  replace H := Option.bind_eq_some_iff.mp H
  obtain ⟨⟨t203, t204, t205⟩, A60, H⟩ := H
  replace H : (if (t199 == t203 && (t200 == t204)) = true then (if t201 = t205 then ((ramp_Valid.f a0_0 a0_1 a0_2 a0_3 a0_4 a0_5 a0_6 a0_7 a1_0 a1_1).bind fun t207 => ((chargeparkref24_Valid.f k a0_0 a0_1 a0_2 a0_3 a0_4 a0_5 a0_6 a0_7 a1_0 a1_1).bind fun t208 => (some (t207 == t208)))) else (some false)) else (some false)) = some r := H
  have A6 := Aside0.mk A60
  clear A60
  by_cases c7 : (t199 == t203 && (t200 == t204)) = true
  · rw [if_pos c7] at H
    have c7b0 : (t199 == t203 && (t200 == t204)) = true := c7
    (try (have c7b1 : decide (t199 = t203 && (t200 == t204)) = true := by simpa using c7))
    (try (have c7b2 : (t199 == t203 && (t200 == t204)) = true := by simpa using c7))
    clear c7
    by_cases c8 : t201 = t205
    · rw [if_pos c8] at H
      have c8b0 : (t201 == t205) = true := beq_iff_eq.mpr c8
      have c8b1 : (t201 != t205) = false := bne_eq_false_iff_eq.mpr c8
      clear c8
      replace H := Option.bind_eq_some_iff.mp H
      obtain ⟨t207, A90, H⟩ := H
      replace H : ((chargeparkref24_Valid.f k a0_0 a0_1 a0_2 a0_3 a0_4 a0_5 a0_6 a0_7 a1_0 a1_1).bind fun t208 => (some (t207 == t208))) = some r := H
      have A9 := Aside0.mk A90
      clear A90
      replace H := Option.bind_eq_some_iff.mp H
      obtain ⟨t208, A100, H⟩ := H
      replace H : (some (t207 == t208)) = some r := H
      have A10 := Aside0.mk A100
      clear A100
      obtain rfl := Option.some.inj H
      simp only [Option.some.injEq, Prod.mk.injEq] at H
      obtain ⟨rfl⟩ := H
      go_enter Tryd.func3, Tryd.ntmps3
      try go_wp2_with (first | ((with_reducible refine gate_dst (N := 3) rfl ?_); refine box_event ?hg (N := 3) ?hd (cs := #[.string a0_0, .int .i64 a0_1, .int .i64 a0_2, .int .i64 a0_3, .int .i64 a0_4, .int .i64 a0_5, .int .i64 a0_6, .int .i64 a0_7]) (t := 23) ?hr ?_; (case hd => rfl); (case hg => rfl); (case hr => first | (go_simp; done) | (go_simp; rfl)); intro gb197 hg w11 hbox hb; have n0_ := Aside0.mk (below_step (by repeat (first | (with_reducible first | exact HB.out | apply below_alloc | apply pw_below_drewN | apply below_drew1) | exact HB.out)) hb); have n1_ := Aside0.mk (hbox); have n2_ := Aside0.mk ((by rw [hg]; exact (below_size (by repeat (first | (with_reducible first | exact HB.out | apply below_alloc | apply pw_below_drewN | apply below_drew1) | exact HB.out))) : w.heap.size ≤ gb197)); have n3_ := Aside0.mk ((by rw [hg]; exact (below_size (by repeat (first | (with_reducible first | exact HB.out | apply below_alloc | apply pw_below_drewN | apply below_drew1) | exact HB.out))) : w.heap.size ≤ gb197)); clear HB; have HB := n0_; have BK197 := n1_; have GW197 := n2_; have GE197 := n3_; clear n0_ n1_ n2_ n3_; clear hb hbox hg) | ((with_reducible refine gate_dst (N := 4) rfl ?_); refine box_event ?hg (N := 4) ?hd (cs := #[.int .i64 a1_0, .int .i64 a1_1]) (t := 25) ?hr ?_; (case hd => rfl); (case hg => rfl); (case hr => first | (go_simp; done) | (go_simp; rfl)); intro gb198 hg w12 hbox hb; have n0_ := Aside0.mk (blk_below (g := gb197) (o := .cells #[.string a0_0, .int .i64 a0_1, .int .i64 a0_2, .int .i64 a0_3, .int .i64 a0_4, .int .i64 a0_5, .int .i64 a0_6, .int .i64 a0_7] 23 (0, 0)) (by (with_reducible repeat (first | refine blk_drewN ?_ _ | refine blk_drew ?_ | refine blk_alloc ?_ _)); exact BK197.out) hb); have n1_ := Aside0.mk (below_step (by repeat (first | (with_reducible first | exact HB.out | apply below_alloc | apply pw_below_drewN | apply below_drew1 | refine below_set ?_ GE197.out) | exact HB.out)) hb); have n2_ := Aside0.mk (hbox); have n3_ := Aside0.mk ((by rw [hg]; exact (below_size (by repeat (first | (with_reducible first | exact HB.out | apply below_alloc | apply pw_below_drewN | apply below_drew1 | refine below_set ?_ GE197.out) | exact HB.out))) : w.heap.size ≤ gb198)); have n4_ := Aside0.mk ((by rw [hg]; exact (below_size (by repeat (first | (with_reducible first | exact HB.out | apply below_alloc | apply pw_below_drewN | apply below_drew1 | refine below_set ?_ GE197.out) | exact HB.out))) : w.heap.size ≤ gb198)); have n5_ := Aside0.mk ((by rw [hg]; exact Nat.ne_of_lt (blk_lt (g := gb197) (o := .cells #[.string a0_0, .int .i64 a0_1, .int .i64 a0_2, .int .i64 a0_3, .int .i64 a0_4, .int .i64 a0_5, .int .i64 a0_6, .int .i64 a0_7] 23 (0, 0)) (by (with_reducible repeat (first | refine blk_drewN ?_ _ | refine blk_drew ?_ | refine blk_alloc ?_ _)); exact BK197.out)) : gb197 ≠ gb198)); have n6_ := Aside0.mk ((by rw [hg]; exact Nat.ne_of_gt (blk_lt (g := gb197) (o := .cells #[.string a0_0, .int .i64 a0_1, .int .i64 a0_2, .int .i64 a0_3, .int .i64 a0_4, .int .i64 a0_5, .int .i64 a0_6, .int .i64 a0_7] 23 (0, 0)) (by (with_reducible repeat (first | refine blk_drewN ?_ _ | refine blk_drew ?_ | refine blk_alloc ?_ _)); exact BK197.out)) : gb198 ≠ gb197)); clear BK197; clear HB; have BK197 := n0_; have HB := n1_; have BK198 := n2_; have GW198 := n3_; have GE198 := n4_; have NB197_198 := n5_; have NB198_197 := n6_; clear n0_ n1_ n2_ n3_ n4_ n5_ n6_; clear hb hbox hg) | ((with_reducible refine gate_callee (f := 9) rfl ?_); refine goesL_ (some 12) rfl rfl Tryd.func9 (by kernel_rfl) rfl #[] rfl (by (try simp only [List.map_toArray, List.map_cons, List.map_nil]); first | done | rfl | (simp only [List.length_drop, List.length_take]; rfl)) ?_; (with_reducible refine (chargeparklaw24_head_c.calls  true _ (hG.below (by repeat (first | (with_reducible first | exact HB.out | apply below_alloc | apply pw_below_drewN | apply below_drew1) | exact HB.out))) A4.out).mono ?_); rintro e w13 ⟨rfl, hb⟩; refine ⟨_, rfl, ?_⟩; have n0_ := Aside0.mk (blk_below (g := gb197) (o := .cells #[.string a0_0, .int .i64 a0_1, .int .i64 a0_2, .int .i64 a0_3, .int .i64 a0_4, .int .i64 a0_5, .int .i64 a0_6, .int .i64 a0_7] 23 (0, 0)) (by (with_reducible repeat (first | refine blk_drewN ?_ _ | refine blk_drew ?_ | refine blk_alloc ?_ _)); exact BK197.out) hb); have n1_ := Aside0.mk (blk_below (g := gb198) (o := .cells #[.int .i64 a1_0, .int .i64 a1_1] 25 (0, 0)) (by (with_reducible repeat (first | refine blk_drewN ?_ _ | refine blk_drew ?_ | refine blk_alloc ?_ _)); exact BK198.out) hb); have n2_ := Aside0.mk (below_step (by repeat (first | (with_reducible first | exact HB.out | apply below_alloc | apply pw_below_drewN | apply below_drew1 | refine below_set ?_ GE197.out | refine below_set ?_ GE198.out) | exact HB.out)) hb); clear BK197; clear BK198; clear HB; have BK197 := n0_; have BK198 := n1_; have HB := n2_; clear n0_ n1_ n2_; (try clear hb); (try clear hb2); (try clear hk); (try clear hi); have hnb14 := NB197_198.out; have hnc14 := NB198_197.out; have hcz15_0 : w13.cell? ⟨gb197, 0, none⟩ = some (.string a0_0) := (blk_cell BK197.out 0).trans rfl; have hcz15_1 : w13.cell? ⟨gb197, 1, none⟩ = some (.int .i64 a0_1) := (blk_cell BK197.out 1).trans rfl; have hcz15_2 : w13.cell? ⟨gb197, 2, none⟩ = some (.int .i64 a0_2) := (blk_cell BK197.out 2).trans rfl; have hcz15_3 : w13.cell? ⟨gb197, 3, none⟩ = some (.int .i64 a0_3) := (blk_cell BK197.out 3).trans rfl; have hcz15_4 : w13.cell? ⟨gb197, 4, none⟩ = some (.int .i64 a0_4) := (blk_cell BK197.out 4).trans rfl; have hcz15_5 : w13.cell? ⟨gb197, 5, none⟩ = some (.int .i64 a0_5) := (blk_cell BK197.out 5).trans rfl; have hcz15_6 : w13.cell? ⟨gb197, 6, none⟩ = some (.int .i64 a0_6) := (blk_cell BK197.out 6).trans rfl; have hcz15_7 : w13.cell? ⟨gb197, 7, none⟩ = some (.int .i64 a0_7) := (blk_cell BK197.out 7).trans rfl; have hfz15_0 := blk_frozen BK197.out 0; have hfz15_1 := blk_frozen BK197.out 1; have hfz15_2 := blk_frozen BK197.out 2; have hfz15_3 := blk_frozen BK197.out 3; have hfz15_4 := blk_frozen BK197.out 4; have hfz15_5 := blk_frozen BK197.out 5; have hfz15_6 := blk_frozen BK197.out 6; have hfz15_7 := blk_frozen BK197.out 7; have hcz16_0 : w13.cell? ⟨gb198, 0, none⟩ = some (.int .i64 a1_0) := (blk_cell BK198.out 0).trans rfl; have hcz16_1 : w13.cell? ⟨gb198, 1, none⟩ = some (.int .i64 a1_1) := (blk_cell BK198.out 1).trans rfl; have hfz16_0 := blk_frozen BK198.out 0; have hfz16_1 := blk_frozen BK198.out 1) | ((with_reducible refine gate_callee (f := 10) rfl ?_); refine goesL_ (some 17) rfl rfl Tryd.func10 (by kernel_rfl) rfl #[.agg #[.string a0_0, .int .i64 a0_1, .int .i64 a0_2, .int .i64 a0_3, .int .i64 a0_4, .int .i64 a0_5, .int .i64 a0_6, .int .i64 a0_7], .agg #[.int .i64 a1_0, .int .i64 a1_1], .int .i64 a2] rfl (by (try simp only [List.map_toArray, List.map_cons, List.map_nil]); first | done | rfl | (simp only [List.length_drop, List.length_take]; rfl)) ?_; (with_reducible refine (ramp_Next.calls a0_0 a0_1 a0_2 a0_3 a0_4 a0_5 a0_6 a0_7 a1_0 a1_1 a2 t199 t200 t201 _ (hG.below (by repeat (first | (with_reducible first | exact HB.out | apply below_alloc | apply pw_below_drewN | apply below_drew1) | exact HB.out))) A5.out).mono ?_); rintro e w17 ⟨rfl, hb⟩; refine ⟨_, rfl, ?_⟩; have n0_ := Aside0.mk (blk_below (g := gb197) (o := .cells #[.string a0_0, .int .i64 a0_1, .int .i64 a0_2, .int .i64 a0_3, .int .i64 a0_4, .int .i64 a0_5, .int .i64 a0_6, .int .i64 a0_7] 23 (0, 0)) (by (with_reducible repeat (first | refine blk_drewN ?_ _ | refine blk_drew ?_ | refine blk_alloc ?_ _)); exact BK197.out) hb); have n1_ := Aside0.mk (blk_below (g := gb198) (o := .cells #[.int .i64 a1_0, .int .i64 a1_1] 25 (0, 0)) (by (with_reducible repeat (first | refine blk_drewN ?_ _ | refine blk_drew ?_ | refine blk_alloc ?_ _)); exact BK198.out) hb); have n2_ := Aside0.mk (below_step (by repeat (first | (with_reducible first | exact HB.out | apply below_alloc | apply pw_below_drewN | apply below_drew1 | refine below_set ?_ GE197.out | refine below_set ?_ GE198.out) | exact HB.out)) hb); clear BK197; clear BK198; clear HB; have BK197 := n0_; have BK198 := n1_; have HB := n2_; clear n0_ n1_ n2_; (try clear hb); (try clear hb2); (try clear hk); (try clear hi)) | ((with_reducible refine gate_dst (N := 8) rfl ?_); refine box_event ?hg (N := 8) ?hd (cs := #[.int .i64 0, .int .i64 0]) (t := 25) ?hr ?_; (case hd => rfl); (case hg => rfl); (case hr => first | (go_simp; done) | (go_simp; rfl)); intro gb202 hg w18 hbox hb; have n0_ := Aside0.mk (blk_below (g := gb197) (o := .cells #[.string a0_0, .int .i64 a0_1, .int .i64 a0_2, .int .i64 a0_3, .int .i64 a0_4, .int .i64 a0_5, .int .i64 a0_6, .int .i64 a0_7] 23 (0, 0)) (by (with_reducible repeat (first | refine blk_drewN ?_ _ | refine blk_drew ?_ | refine blk_alloc ?_ _)); exact BK197.out) hb); have n1_ := Aside0.mk (blk_below (g := gb198) (o := .cells #[.int .i64 a1_0, .int .i64 a1_1] 25 (0, 0)) (by (with_reducible repeat (first | refine blk_drewN ?_ _ | refine blk_drew ?_ | refine blk_alloc ?_ _)); exact BK198.out) hb); have n2_ := Aside0.mk (below_step (by repeat (first | (with_reducible first | exact HB.out | apply below_alloc | apply pw_below_drewN | apply below_drew1 | refine below_set ?_ GE197.out | refine below_set ?_ GE198.out) | exact HB.out)) hb); have n3_ := Aside0.mk (hbox); have n4_ := Aside0.mk ((by rw [hg]; exact (below_size (by repeat (first | (with_reducible first | exact HB.out | apply below_alloc | apply pw_below_drewN | apply below_drew1 | refine below_set ?_ GE197.out | refine below_set ?_ GE198.out) | exact HB.out))) : w.heap.size ≤ gb202)); have n5_ := Aside0.mk ((by rw [hg]; exact (below_size (by repeat (first | (with_reducible first | exact HB.out | apply below_alloc | apply pw_below_drewN | apply below_drew1 | refine below_set ?_ GE197.out | refine below_set ?_ GE198.out) | exact HB.out))) : w.heap.size ≤ gb202)); have n6_ := Aside0.mk ((by rw [hg]; exact Nat.ne_of_lt (blk_lt (g := gb197) (o := .cells #[.string a0_0, .int .i64 a0_1, .int .i64 a0_2, .int .i64 a0_3, .int .i64 a0_4, .int .i64 a0_5, .int .i64 a0_6, .int .i64 a0_7] 23 (0, 0)) (by (with_reducible repeat (first | refine blk_drewN ?_ _ | refine blk_drew ?_ | refine blk_alloc ?_ _)); exact BK197.out)) : gb197 ≠ gb202)); have n7_ := Aside0.mk ((by rw [hg]; exact Nat.ne_of_gt (blk_lt (g := gb197) (o := .cells #[.string a0_0, .int .i64 a0_1, .int .i64 a0_2, .int .i64 a0_3, .int .i64 a0_4, .int .i64 a0_5, .int .i64 a0_6, .int .i64 a0_7] 23 (0, 0)) (by (with_reducible repeat (first | refine blk_drewN ?_ _ | refine blk_drew ?_ | refine blk_alloc ?_ _)); exact BK197.out)) : gb202 ≠ gb197)); have n8_ := Aside0.mk ((by rw [hg]; exact Nat.ne_of_lt (blk_lt (g := gb198) (o := .cells #[.int .i64 a1_0, .int .i64 a1_1] 25 (0, 0)) (by (with_reducible repeat (first | refine blk_drewN ?_ _ | refine blk_drew ?_ | refine blk_alloc ?_ _)); exact BK198.out)) : gb198 ≠ gb202)); have n9_ := Aside0.mk ((by rw [hg]; exact Nat.ne_of_gt (blk_lt (g := gb198) (o := .cells #[.int .i64 a1_0, .int .i64 a1_1] 25 (0, 0)) (by (with_reducible repeat (first | refine blk_drewN ?_ _ | refine blk_drew ?_ | refine blk_alloc ?_ _)); exact BK198.out)) : gb202 ≠ gb198)); clear BK197; clear BK198; clear HB; have BK197 := n0_; have BK198 := n1_; have HB := n2_; have BK202 := n3_; have GW202 := n4_; have GE202 := n5_; have NB197_202 := n6_; have NB202_197 := n7_; have NB198_202 := n8_; have NB202_198 := n9_; clear n0_ n1_ n2_ n3_ n4_ n5_ n6_ n7_ n8_ n9_; clear hb hbox hg; have hnb19 := NB202_197.out; have hnc19 := NB197_202.out; have hnb20 := NB202_198.out; have hnc20 := NB198_202.out; have hcz21_0 : w18.cell? ⟨gb202, 0, none⟩ = some (.int .i64 0) := (blk_cell BK202.out 0).trans rfl; have hcz21_1 : w18.cell? ⟨gb202, 1, none⟩ = some (.int .i64 0) := (blk_cell BK202.out 1).trans rfl; have hfz21_0 := blk_frozen BK202.out 0; have hfz21_1 := blk_frozen BK202.out 1; have hcz22_0 : w18.cell? ⟨gb197, 0, none⟩ = some (.string a0_0) := (blk_cell BK197.out 0).trans rfl; have hcz22_1 : w18.cell? ⟨gb197, 1, none⟩ = some (.int .i64 a0_1) := (blk_cell BK197.out 1).trans rfl; have hcz22_2 : w18.cell? ⟨gb197, 2, none⟩ = some (.int .i64 a0_2) := (blk_cell BK197.out 2).trans rfl; have hcz22_3 : w18.cell? ⟨gb197, 3, none⟩ = some (.int .i64 a0_3) := (blk_cell BK197.out 3).trans rfl; have hcz22_4 : w18.cell? ⟨gb197, 4, none⟩ = some (.int .i64 a0_4) := (blk_cell BK197.out 4).trans rfl; have hcz22_5 : w18.cell? ⟨gb197, 5, none⟩ = some (.int .i64 a0_5) := (blk_cell BK197.out 5).trans rfl; have hcz22_6 : w18.cell? ⟨gb197, 6, none⟩ = some (.int .i64 a0_6) := (blk_cell BK197.out 6).trans rfl; have hcz22_7 : w18.cell? ⟨gb197, 7, none⟩ = some (.int .i64 a0_7) := (blk_cell BK197.out 7).trans rfl; have hfz22_0 := blk_frozen BK197.out 0; have hfz22_1 := blk_frozen BK197.out 1; have hfz22_2 := blk_frozen BK197.out 2; have hfz22_3 := blk_frozen BK197.out 3; have hfz22_4 := blk_frozen BK197.out 4; have hfz22_5 := blk_frozen BK197.out 5; have hfz22_6 := blk_frozen BK197.out 6; have hfz22_7 := blk_frozen BK197.out 7; have hcz23_0 : w18.cell? ⟨gb198, 0, none⟩ = some (.int .i64 a1_0) := (blk_cell BK198.out 0).trans rfl; have hcz23_1 : w18.cell? ⟨gb198, 1, none⟩ = some (.int .i64 a1_1) := (blk_cell BK198.out 1).trans rfl; have hfz23_0 := blk_frozen BK198.out 0; have hfz23_1 := blk_frozen BK198.out 1) | ((with_reducible refine gate_callee (f := 11) rfl ?_); refine goesL_ (some 24) rfl rfl Tryd.func11 (by kernel_rfl) rfl #[.agg #[.string a0_0, .int .i64 a0_1, .int .i64 a0_2, .int .i64 a0_3, .int .i64 a0_4, .int .i64 a0_5, .int .i64 a0_6, .int .i64 a0_7], .agg #[.int .i64 a1_0, .int .i64 a1_1], .int .i64 a2] rfl (by (try simp only [List.map_toArray, List.map_cons, List.map_nil]); first | done | rfl | (simp only [List.length_drop, List.length_take]; rfl)) ?_; (with_reducible refine (chargeparkref24_Next.calls k a0_0 a0_1 a0_2 a0_3 a0_4 a0_5 a0_6 a0_7 a1_0 a1_1 a2 t203 t204 t205 _ A6.out).mono ?_); rintro e w24 ⟨rfl, hb⟩; refine ⟨_, rfl, ?_⟩; have n0_ := Aside0.mk (blk_below (g := gb197) (o := .cells #[.string a0_0, .int .i64 a0_1, .int .i64 a0_2, .int .i64 a0_3, .int .i64 a0_4, .int .i64 a0_5, .int .i64 a0_6, .int .i64 a0_7] 23 (0, 0)) (by (with_reducible repeat (first | refine blk_drewN ?_ _ | refine blk_drew ?_ | refine blk_alloc ?_ _)); refine blk_far ?_ NB197_202.out _; (with_reducible repeat (first | refine blk_drewN ?_ _ | refine blk_drew ?_ | refine blk_alloc ?_ _)); refine blk_far ?_ NB197_202.out _; (with_reducible repeat (first | refine blk_drewN ?_ _ | refine blk_drew ?_ | refine blk_alloc ?_ _)); exact BK197.out) hb); have n1_ := Aside0.mk (blk_below (g := gb198) (o := .cells #[.int .i64 a1_0, .int .i64 a1_1] 25 (0, 0)) (by (with_reducible repeat (first | refine blk_drewN ?_ _ | refine blk_drew ?_ | refine blk_alloc ?_ _)); refine blk_far ?_ NB198_202.out _; (with_reducible repeat (first | refine blk_drewN ?_ _ | refine blk_drew ?_ | refine blk_alloc ?_ _)); refine blk_far ?_ NB198_202.out _; (with_reducible repeat (first | refine blk_drewN ?_ _ | refine blk_drew ?_ | refine blk_alloc ?_ _)); exact BK198.out) hb); have n2_ := Aside0.mk (blk_below (g := gb202) (o := .cells #[.int .i64 t199, .int .i64 t200] 25 (0, 0)) (by (with_reducible repeat (first | refine blk_drewN ?_ _ | refine blk_drew ?_ | refine blk_alloc ?_ _)); refine blk_put (cs := #[.int .i64 t199, .int .i64 0]) ?_ 1 _ rfl; (with_reducible repeat (first | refine blk_drewN ?_ _ | refine blk_drew ?_ | refine blk_alloc ?_ _)); refine blk_put (cs := #[.int .i64 0, .int .i64 0]) ?_ 0 _ rfl; (with_reducible repeat (first | refine blk_drewN ?_ _ | refine blk_drew ?_ | refine blk_alloc ?_ _)); exact BK202.out) hb); have n3_ := Aside0.mk (below_step (by repeat (first | (with_reducible first | exact HB.out | apply below_alloc | apply pw_below_drewN | apply below_drew1 | refine below_set ?_ GE197.out | refine below_set ?_ GE198.out | refine below_set ?_ GE202.out) | exact HB.out)) hb); clear BK197; clear BK198; clear BK202; clear HB; have BK197 := n0_; have BK198 := n1_; have BK202 := n2_; have HB := n3_; clear n0_ n1_ n2_ n3_; (try clear hb); (try clear hb2); (try clear hk); (try clear hi)) | ((with_reducible refine gate_dst (N := 10) rfl ?_); refine box_event ?hg (N := 10) ?hd (cs := #[.int .i64 0, .int .i64 0]) (t := 25) ?hr ?_; (case hd => rfl); (case hg => rfl); (case hr => first | (go_simp; done) | (go_simp; rfl)); intro gb206 hg w25 hbox hb; have n0_ := Aside0.mk (blk_below (g := gb197) (o := .cells #[.string a0_0, .int .i64 a0_1, .int .i64 a0_2, .int .i64 a0_3, .int .i64 a0_4, .int .i64 a0_5, .int .i64 a0_6, .int .i64 a0_7] 23 (0, 0)) (by (with_reducible repeat (first | refine blk_drewN ?_ _ | refine blk_drew ?_ | refine blk_alloc ?_ _)); exact BK197.out) hb); have n1_ := Aside0.mk (blk_below (g := gb198) (o := .cells #[.int .i64 a1_0, .int .i64 a1_1] 25 (0, 0)) (by (with_reducible repeat (first | refine blk_drewN ?_ _ | refine blk_drew ?_ | refine blk_alloc ?_ _)); exact BK198.out) hb); have n2_ := Aside0.mk (blk_below (g := gb202) (o := .cells #[.int .i64 t199, .int .i64 t200] 25 (0, 0)) (by (with_reducible repeat (first | refine blk_drewN ?_ _ | refine blk_drew ?_ | refine blk_alloc ?_ _)); exact BK202.out) hb); have n3_ := Aside0.mk (below_step (by repeat (first | (with_reducible first | exact HB.out | apply below_alloc | apply pw_below_drewN | apply below_drew1 | refine below_set ?_ GE197.out | refine below_set ?_ GE198.out | refine below_set ?_ GE202.out) | exact HB.out)) hb); have n4_ := Aside0.mk (hbox); have n5_ := Aside0.mk ((by rw [hg]; exact (below_size (by repeat (first | (with_reducible first | exact HB.out | apply below_alloc | apply pw_below_drewN | apply below_drew1 | refine below_set ?_ GE197.out | refine below_set ?_ GE198.out | refine below_set ?_ GE202.out) | exact HB.out))) : w.heap.size ≤ gb206)); have n6_ := Aside0.mk ((by rw [hg]; exact (below_size (by repeat (first | (with_reducible first | exact HB.out | apply below_alloc | apply pw_below_drewN | apply below_drew1 | refine below_set ?_ GE197.out | refine below_set ?_ GE198.out | refine below_set ?_ GE202.out) | exact HB.out))) : w.heap.size ≤ gb206)); have n7_ := Aside0.mk ((by rw [hg]; exact Nat.ne_of_lt (blk_lt (g := gb197) (o := .cells #[.string a0_0, .int .i64 a0_1, .int .i64 a0_2, .int .i64 a0_3, .int .i64 a0_4, .int .i64 a0_5, .int .i64 a0_6, .int .i64 a0_7] 23 (0, 0)) (by (with_reducible repeat (first | refine blk_drewN ?_ _ | refine blk_drew ?_ | refine blk_alloc ?_ _)); exact BK197.out)) : gb197 ≠ gb206)); have n8_ := Aside0.mk ((by rw [hg]; exact Nat.ne_of_gt (blk_lt (g := gb197) (o := .cells #[.string a0_0, .int .i64 a0_1, .int .i64 a0_2, .int .i64 a0_3, .int .i64 a0_4, .int .i64 a0_5, .int .i64 a0_6, .int .i64 a0_7] 23 (0, 0)) (by (with_reducible repeat (first | refine blk_drewN ?_ _ | refine blk_drew ?_ | refine blk_alloc ?_ _)); exact BK197.out)) : gb206 ≠ gb197)); have n9_ := Aside0.mk ((by rw [hg]; exact Nat.ne_of_lt (blk_lt (g := gb198) (o := .cells #[.int .i64 a1_0, .int .i64 a1_1] 25 (0, 0)) (by (with_reducible repeat (first | refine blk_drewN ?_ _ | refine blk_drew ?_ | refine blk_alloc ?_ _)); exact BK198.out)) : gb198 ≠ gb206)); have n10_ := Aside0.mk ((by rw [hg]; exact Nat.ne_of_gt (blk_lt (g := gb198) (o := .cells #[.int .i64 a1_0, .int .i64 a1_1] 25 (0, 0)) (by (with_reducible repeat (first | refine blk_drewN ?_ _ | refine blk_drew ?_ | refine blk_alloc ?_ _)); exact BK198.out)) : gb206 ≠ gb198)); have n11_ := Aside0.mk ((by rw [hg]; exact Nat.ne_of_lt (blk_lt (g := gb202) (o := .cells #[.int .i64 t199, .int .i64 t200] 25 (0, 0)) (by (with_reducible repeat (first | refine blk_drewN ?_ _ | refine blk_drew ?_ | refine blk_alloc ?_ _)); exact BK202.out)) : gb202 ≠ gb206)); have n12_ := Aside0.mk ((by rw [hg]; exact Nat.ne_of_gt (blk_lt (g := gb202) (o := .cells #[.int .i64 t199, .int .i64 t200] 25 (0, 0)) (by (with_reducible repeat (first | refine blk_drewN ?_ _ | refine blk_drew ?_ | refine blk_alloc ?_ _)); exact BK202.out)) : gb206 ≠ gb202)); clear BK197; clear BK198; clear BK202; clear HB; have BK197 := n0_; have BK198 := n1_; have BK202 := n2_; have HB := n3_; have BK206 := n4_; have GW206 := n5_; have GE206 := n6_; have NB197_206 := n7_; have NB206_197 := n8_; have NB198_206 := n9_; have NB206_198 := n10_; have NB202_206 := n11_; have NB206_202 := n12_; clear n0_ n1_ n2_ n3_ n4_ n5_ n6_ n7_ n8_ n9_ n10_ n11_ n12_; clear hb hbox hg; have hnb26 := NB206_197.out; have hnc26 := NB197_206.out; have hnb27 := NB206_198.out; have hnc27 := NB198_206.out; have hnb28 := NB206_202.out; have hnc28 := NB202_206.out; have hcz29_0 : w25.cell? ⟨gb206, 0, none⟩ = some (.int .i64 0) := (blk_cell BK206.out 0).trans rfl; have hcz29_1 : w25.cell? ⟨gb206, 1, none⟩ = some (.int .i64 0) := (blk_cell BK206.out 1).trans rfl; have hfz29_0 := blk_frozen BK206.out 0; have hfz29_1 := blk_frozen BK206.out 1))
      have n0_ : Aside0 (((w25.setCell ⟨gb206, 0, none⟩ (.int .i64 t203)).setCell ⟨gb206, 1, none⟩ (.int .i64 t204)).heap[gb197]? = some (.cells #[.string a0_0, .int .i64 a0_1, .int .i64 a0_2, .int .i64 a0_3, .int .i64 a0_4, .int .i64 a0_5, .int .i64 a0_6, .int .i64 a0_7] 23 (0, 0))) := ⟨by (with_reducible repeat (first | refine blk_drewN ?_ _ | refine blk_drew ?_ | refine blk_alloc ?_ _)); refine blk_far ?_ NB197_206.out _; (with_reducible repeat (first | refine blk_drewN ?_ _ | refine blk_drew ?_ | refine blk_alloc ?_ _)); refine blk_far ?_ NB197_206.out _; (with_reducible repeat (first | refine blk_drewN ?_ _ | refine blk_drew ?_ | refine blk_alloc ?_ _)); exact BK197.out⟩
      have n1_ : Aside0 (((w25.setCell ⟨gb206, 0, none⟩ (.int .i64 t203)).setCell ⟨gb206, 1, none⟩ (.int .i64 t204)).heap[gb198]? = some (.cells #[.int .i64 a1_0, .int .i64 a1_1] 25 (0, 0))) := ⟨by (with_reducible repeat (first | refine blk_drewN ?_ _ | refine blk_drew ?_ | refine blk_alloc ?_ _)); refine blk_far ?_ NB198_206.out _; (with_reducible repeat (first | refine blk_drewN ?_ _ | refine blk_drew ?_ | refine blk_alloc ?_ _)); refine blk_far ?_ NB198_206.out _; (with_reducible repeat (first | refine blk_drewN ?_ _ | refine blk_drew ?_ | refine blk_alloc ?_ _)); exact BK198.out⟩
      have n2_ : Aside0 (((w25.setCell ⟨gb206, 0, none⟩ (.int .i64 t203)).setCell ⟨gb206, 1, none⟩ (.int .i64 t204)).heap[gb202]? = some (.cells #[.int .i64 t199, .int .i64 t200] 25 (0, 0))) := ⟨by (with_reducible repeat (first | refine blk_drewN ?_ _ | refine blk_drew ?_ | refine blk_alloc ?_ _)); refine blk_far ?_ NB202_206.out _; (with_reducible repeat (first | refine blk_drewN ?_ _ | refine blk_drew ?_ | refine blk_alloc ?_ _)); refine blk_far ?_ NB202_206.out _; (with_reducible repeat (first | refine blk_drewN ?_ _ | refine blk_drew ?_ | refine blk_alloc ?_ _)); exact BK202.out⟩
      have n3_ : Aside0 (((w25.setCell ⟨gb206, 0, none⟩ (.int .i64 t203)).setCell ⟨gb206, 1, none⟩ (.int .i64 t204)).heap[gb206]? = some (.cells #[.int .i64 t203, .int .i64 t204] 25 (0, 0))) := ⟨by (with_reducible repeat (first | refine blk_drewN ?_ _ | refine blk_drew ?_ | refine blk_alloc ?_ _)); refine blk_put (cs := #[.int .i64 t203, .int .i64 0]) ?_ 1 _ rfl; (with_reducible repeat (first | refine blk_drewN ?_ _ | refine blk_drew ?_ | refine blk_alloc ?_ _)); refine blk_put (cs := #[.int .i64 0, .int .i64 0]) ?_ 0 _ rfl; (with_reducible repeat (first | refine blk_drewN ?_ _ | refine blk_drew ?_ | refine blk_alloc ?_ _)); exact BK206.out⟩
      have n4_ : Aside0 (Below w.heap.size w ((w25.setCell ⟨gb206, 0, none⟩ (.int .i64 t203)).setCell ⟨gb206, 1, none⟩ (.int .i64 t204))) := ⟨by repeat (first | (with_reducible first | exact HB.out | apply below_alloc | apply pw_below_drewN | apply below_drew1 | refine below_set ?_ GE197.out | refine below_set ?_ GE198.out | refine below_set ?_ GE202.out | refine below_set ?_ GE206.out) | exact HB.out)⟩
      (try clear BK197)
      (try clear BK198)
      (try clear BK202)
      (try clear BK206)
      (try clear HB)
      generalize ((w25.setCell ⟨gb206, 0, none⟩ (.int .i64 t203)).setCell ⟨gb206, 1, none⟩ (.int .i64 t204)) = w30 at n0_ n1_ n2_ n3_ n4_ ⊢
      have BK197 := n0_
      have BK198 := n1_
      have BK202 := n2_
      have BK206 := n3_
      have HB := n4_
      clear n0_ n1_ n2_ n3_ n4_
      have n0_ := Aside0.mk (blk_drew BK197.out)
      have n1_ := Aside0.mk (blk_drew BK198.out)
      have n2_ := Aside0.mk (blk_drew BK202.out)
      have n3_ := Aside0.mk (blk_drew BK206.out)
      have n4_ := Aside0.mk (below_drew1 HB.out)
      clear BK197
      clear BK198
      clear BK202
      clear BK206
      clear HB
      have BK197 := n0_
      have BK198 := n1_
      have BK202 := n2_
      have BK206 := n3_
      have HB := n4_
      clear n0_ n1_ n2_ n3_ n4_
      refine start_ (n := 21) (S := fun w' => w'.cell? ⟨gb202, 0, none⟩ = some (.int .i64 t199) ∧ w'.cell? ⟨gb202, 1, none⟩ = some (.int .i64 t200) ∧ w'.cell? ⟨gb206, 0, none⟩ = some (.int .i64 t203) ∧ w'.cell? ⟨gb206, 1, none⟩ = some (.int .i64 t204) ∧ w'.cell? ⟨gb197, 0, none⟩ = some (.string a0_0) ∧ w'.cell? ⟨gb197, 1, none⟩ = some (.int .i64 a0_1) ∧ w'.cell? ⟨gb197, 2, none⟩ = some (.int .i64 a0_2) ∧ w'.cell? ⟨gb197, 3, none⟩ = some (.int .i64 a0_3) ∧ w'.cell? ⟨gb197, 4, none⟩ = some (.int .i64 a0_4) ∧ w'.cell? ⟨gb197, 5, none⟩ = some (.int .i64 a0_5) ∧ w'.cell? ⟨gb197, 6, none⟩ = some (.int .i64 a0_6) ∧ w'.cell? ⟨gb197, 7, none⟩ = some (.int .i64 a0_7) ∧ w'.cell? ⟨gb198, 0, none⟩ = some (.int .i64 a1_0) ∧ w'.cell? ⟨gb198, 1, none⟩ = some (.int .i64 a1_1)) (ds := []) #[false, false, false, false, false, false, false, false, false, false, false, false, false, false, false, false, false, false, false, false, false] (by kernel_rfl) rfl rfl ⟨(blk_cell BK202.out 0).trans rfl, (blk_cell BK202.out 1).trans rfl, (blk_cell BK206.out 0).trans rfl, (blk_cell BK206.out 1).trans rfl, (blk_cell BK197.out 0).trans rfl, (blk_cell BK197.out 1).trans rfl, (blk_cell BK197.out 2).trans rfl, (blk_cell BK197.out 3).trans rfl, (blk_cell BK197.out 4).trans rfl, (blk_cell BK197.out 5).trans rfl, (blk_cell BK197.out 6).trans rfl, (blk_cell BK197.out 7).trans rfl, (blk_cell BK198.out 0).trans rfl, (blk_cell BK198.out 1).trans rfl⟩ (fun hHeld => ?_); refine with_tabW chargeparklaw24_RampMatchesReference.tab4 chargeparklaw24_RampMatchesReference.bits4 (fun HT_ HW_ => ?_)
      generalize w30.drew = w31 at BK197 BK198 BK202 BK206 HB hHeld ⊢
      refine pure_ (i := 0) (N := some 27) (v := ?_) (a' := ?_) #[true, false, false, false, false, false, false, false, false, false, false, false, false, false, false, false, false, false, false, false, false] rfl rfl (any_of HT_.out (by kernel_rfl)) (fun _ _ _ h => h) (Or.inl ⟨by rfl, ?_⟩) ?_ ?_
      rotate_left
      · intro w'
        go_simp
        with_reducible rfl
      rotate_left
      · simp only [Act.put, List.setIfInBounds_toArray, List.set_cons_zero, List.set_cons_succ, i64_w, i32_w]
        rfl
      refine pure_ (i := 1) (N := some 28) (v := ?_) (a' := ?_) #[true, true, false, false, false, false, false, false, false, false, false, false, false, false, false, false, false, false, false, false, false] rfl rfl (any_of HT_.out (by kernel_rfl)) (fun _ _ _ h => h) (Or.inl ⟨by rfl, ?_⟩) ?_ ?_
      rotate_left
      · intro w'
        go_simp
        with_reducible rfl
      rotate_left
      · simp only [Act.put, List.setIfInBounds_toArray, List.set_cons_zero, List.set_cons_succ, i64_w, i32_w]
        rfl
      refine take_ (i := 2) (N := some 29) (v := ?_) (a' := ?_) #[true, true, true, false, false, false, false, false, false, false, false, false, false, false, false, false, false, false, false, false, false] rfl rfl (take_ofW HT_.out HW_.out (by kernel_rfl)) (fun _ _ _ h => h) (Or.inl ⟨by rfl, ?_⟩) hHeld ?_ ?_
      rotate_left
      · rintro w' ⟨s0, s1, s2, s3, s4, s5, s6, s7, s8, s9, s10, s11, s12, s13⟩
        go_simp
        with_reducible rfl
      rotate_left
      · simp only [Act.put, List.setIfInBounds_toArray, List.set_cons_zero, List.set_cons_succ, i64_w, i32_w]
        rfl
      refine take_ (i := 3) (N := some 30) (v := ?_) (a' := ?_) #[true, true, true, true, false, false, false, false, false, false, false, false, false, false, false, false, false, false, false, false, false] rfl rfl (take_ofW HT_.out HW_.out (by kernel_rfl)) (fun _ _ _ h => h) (Or.inl ⟨by rfl, ?_⟩) hHeld ?_ ?_
      rotate_left
      · rintro w' ⟨s0, s1, s2, s3, s4, s5, s6, s7, s8, s9, s10, s11, s12, s13⟩
        go_simp
        with_reducible rfl
      rotate_left
      · simp only [Act.put, List.setIfInBounds_toArray, List.set_cons_zero, List.set_cons_succ, i64_w, i32_w]
        rfl
      refine pure_ (i := 4) (N := some 31) (v := ?_) (a' := ?_) #[true, true, true, true, true, false, false, false, false, false, false, false, false, false, false, false, false, false, false, false, false] rfl rfl (any_of HT_.out (by kernel_rfl)) (fun _ _ _ h => h) (Or.inl ⟨by rfl, ?_⟩) ?_ ?_
      rotate_left
      · intro w'
        go_simp
        with_reducible rfl
      rotate_left
      · simp only [Act.put, List.setIfInBounds_toArray, List.set_cons_zero, List.set_cons_succ, i64_w, i32_w]
        rfl
      refine pure_ (i := 5) (N := some 32) (v := ?_) (a' := ?_) #[true, true, true, true, true, true, false, false, false, false, false, false, false, false, false, false, false, false, false, false, false] rfl rfl (any_of HT_.out (by kernel_rfl)) (fun _ _ _ h => h) (Or.inl ⟨by rfl, ?_⟩) ?_ ?_
      rotate_left
      · intro w'
        go_simp
        with_reducible rfl
      rotate_left
      · simp only [Act.put, List.setIfInBounds_toArray, List.set_cons_zero, List.set_cons_succ, i64_w, i32_w]
        rfl
      refine pure_ (i := 6) (N := some 33) (v := ?_) (a' := ?_) #[true, true, true, true, true, true, true, false, false, false, false, false, false, false, false, false, false, false, false, false, false] rfl rfl (any_of HT_.out (by kernel_rfl)) (fun _ _ _ h => h) (Or.inl ⟨by rfl, ?_⟩) ?_ ?_
      rotate_left
      · intro w'
        go_simp
        with_reducible rfl
      rotate_left
      · simp only [Act.put, List.setIfInBounds_toArray, List.set_cons_zero, List.set_cons_succ, i64_w, i32_w]
        rfl
      refine pure_ (i := 7) (N := some 34) (v := ?_) (a' := ?_) #[true, true, true, true, true, true, true, true, false, false, false, false, false, false, false, false, false, false, false, false, false] rfl rfl (any_of HT_.out (by kernel_rfl)) (fun _ _ _ h => h) (Or.inl ⟨by rfl, ?_⟩) ?_ ?_
      rotate_left
      · intro w'
        go_simp
        with_reducible rfl
      rotate_left
      · simp only [Act.put, List.setIfInBounds_toArray, List.set_cons_zero, List.set_cons_succ, i64_w, i32_w]
        rfl
      refine pure_ (i := 8) (N := some 35) (v := ?_) (a' := ?_) #[true, true, true, true, true, true, true, true, true, false, false, false, false, false, false, false, false, false, false, false, false] rfl rfl (any_of HT_.out (by kernel_rfl)) (fun _ _ _ h => h) (Or.inl ⟨by rfl, ?_⟩) ?_ ?_
      rotate_left
      · intro w'
        go_simp
        with_reducible rfl
      rotate_left
      · simp only [Act.put, List.setIfInBounds_toArray, List.set_cons_zero, List.set_cons_succ, i64_w, i32_w]
        rfl
      refine pure_ (i := 9) (N := some 36) (v := ?_) (a' := ?_) #[true, true, true, true, true, true, true, true, true, true, false, false, false, false, false, false, false, false, false, false, false] rfl rfl (any_of HT_.out (by kernel_rfl)) (fun _ _ _ h => h) (Or.inl ⟨by rfl, ?_⟩) ?_ ?_
      rotate_left
      · intro w'
        go_simp
        with_reducible rfl
      rotate_left
      · simp only [Act.put, List.setIfInBounds_toArray, List.set_cons_zero, List.set_cons_succ, i64_w, i32_w]
        rfl
      refine pure_ (i := 10) (N := some 37) (v := ?_) (a' := ?_) #[true, true, true, true, true, true, true, true, true, true, true, false, false, false, false, false, false, false, false, false, false] rfl rfl (any_of HT_.out (by kernel_rfl)) (fun _ _ _ h => h) (Or.inl ⟨by rfl, ?_⟩) ?_ ?_
      rotate_left
      · intro w'
        go_simp
        with_reducible rfl
      rotate_left
      · simp only [Act.put, List.setIfInBounds_toArray, List.set_cons_zero, List.set_cons_succ, i64_w, i32_w]
        rfl
      refine pure_ (i := 11) (N := some 38) (v := ?_) (a' := ?_) #[true, true, true, true, true, true, true, true, true, true, true, true, false, false, false, false, false, false, false, false, false] rfl rfl (any_of HT_.out (by kernel_rfl)) (fun _ _ _ h => h) (Or.inl ⟨by rfl, ?_⟩) ?_ ?_
      rotate_left
      · intro w'
        go_simp
        with_reducible rfl
      rotate_left
      · simp only [Act.put, List.setIfInBounds_toArray, List.set_cons_zero, List.set_cons_succ, i64_w, i32_w]
        rfl
      refine take_ (i := 12) (N := some 39) (v := ?_) (a' := ?_) #[true, true, true, true, true, true, true, true, true, true, true, true, true, false, false, false, false, false, false, false, false] rfl rfl (take_ofW HT_.out HW_.out (by kernel_rfl)) (fun _ _ _ h => h) (Or.inl ⟨by rfl, ?_⟩) hHeld ?_ ?_
      rotate_left
      · rintro w' ⟨s0, s1, s2, s3, s4, s5, s6, s7, s8, s9, s10, s11, s12, s13⟩
        go_simp
        with_reducible rfl
      rotate_left
      · simp only [Act.put, List.setIfInBounds_toArray, List.set_cons_zero, List.set_cons_succ, i64_w, i32_w]
        rfl
      refine take_ (i := 13) (N := some 40) (v := ?_) (a' := ?_) #[true, true, true, true, true, true, true, true, true, true, true, true, true, true, false, false, false, false, false, false, false] rfl rfl (take_ofW HT_.out HW_.out (by kernel_rfl)) (fun _ _ _ h => h) (Or.inl ⟨by rfl, ?_⟩) hHeld ?_ ?_
      rotate_left
      · rintro w' ⟨s0, s1, s2, s3, s4, s5, s6, s7, s8, s9, s10, s11, s12, s13⟩
        go_simp
        with_reducible rfl
      rotate_left
      · simp only [Act.put, List.setIfInBounds_toArray, List.set_cons_zero, List.set_cons_succ, i64_w, i32_w]
        rfl
      refine take_ (i := 15) (N := some 42) (v := ?_) (a' := ?_) #[true, true, true, true, true, true, true, true, true, true, true, true, true, true, false, true, false, false, false, false, false] rfl rfl (take_ofW HT_.out HW_.out (by kernel_rfl)) (fun _ _ _ h => h) (Or.inl ⟨by rfl, ?_⟩) hHeld ?_ ?_
      rotate_left
      · rintro w' ⟨s0, s1, s2, s3, s4, s5, s6, s7, s8, s9, s10, s11, s12, s13⟩
        go_simp
        with_reducible rfl
      rotate_left
      · simp only [Act.put, List.setIfInBounds_toArray, List.set_cons_zero, List.set_cons_succ, i64_w, i32_w]
        rfl
      refine take_ (i := 16) (N := some 43) (v := ?_) (a' := ?_) #[true, true, true, true, true, true, true, true, true, true, true, true, true, true, false, true, true, false, false, false, false] rfl rfl (take_ofW HT_.out HW_.out (by kernel_rfl)) (fun _ _ _ h => h) (Or.inl ⟨by rfl, ?_⟩) hHeld ?_ ?_
      rotate_left
      · rintro w' ⟨s0, s1, s2, s3, s4, s5, s6, s7, s8, s9, s10, s11, s12, s13⟩
        go_simp
        with_reducible rfl
      rotate_left
      · simp only [Act.put, List.setIfInBounds_toArray, List.set_cons_zero, List.set_cons_succ, i64_w, i32_w]
        rfl
      refine one_ (i := 14) (N := some 41) #[true, true, true, true, true, true, true, true, true, true, true, true, true, true, true, true, true, false, false, false, false] rfl rfl (one_of HT_.out (by kernel_rfl)) (by decide) (fun K hK => ?_)
      refine goes_ Tryd.func12 (by kernel_rfl) rfl #[.agg #[.string a0_0, .int .i64 a0_1, .int .i64 a0_2, .int .i64 a0_3, .int .i64 a0_4, .int .i64 a0_5, .int .i64 a0_6, .int .i64 a0_7], .agg #[.int .i64 a1_0, .int .i64 a1_1]] (by rfl) rfl rfl (by (try simp only [List.map_toArray, List.map_cons, List.map_nil]); first | done | rfl | (simp only [List.length_drop, List.length_take]; rfl)) ?_
      with_reducible refine (ramp_Valid.calls a0_0 a0_1 a0_2 a0_3 a0_4 a0_5 a0_6 a0_7 a1_0 a1_1 t207 _ A9.out).mono ?_
      rintro e w32 ⟨rfl, hb⟩
      refine ⟨_, rfl, ?_⟩
      have n0_ := Aside0.mk (blk_below (g := gb197) (o := .cells #[.string a0_0, .int .i64 a0_1, .int .i64 a0_2, .int .i64 a0_3, .int .i64 a0_4, .int .i64 a0_5, .int .i64 a0_6, .int .i64 a0_7] 23 (0, 0)) (by (with_reducible repeat (first | refine blk_drewN ?_ _ | refine blk_drew ?_ | refine blk_alloc ?_ _)); exact BK197.out) hb)
      have n1_ := Aside0.mk (blk_below (g := gb198) (o := .cells #[.int .i64 a1_0, .int .i64 a1_1] 25 (0, 0)) (by (with_reducible repeat (first | refine blk_drewN ?_ _ | refine blk_drew ?_ | refine blk_alloc ?_ _)); exact BK198.out) hb)
      have n2_ := Aside0.mk (blk_below (g := gb202) (o := .cells #[.int .i64 t199, .int .i64 t200] 25 (0, 0)) (by (with_reducible repeat (first | refine blk_drewN ?_ _ | refine blk_drew ?_ | refine blk_alloc ?_ _)); exact BK202.out) hb)
      have n3_ := Aside0.mk (blk_below (g := gb206) (o := .cells #[.int .i64 t203, .int .i64 t204] 25 (0, 0)) (by (with_reducible repeat (first | refine blk_drewN ?_ _ | refine blk_drew ?_ | refine blk_alloc ?_ _)); exact BK206.out) hb)
      have n4_ := Aside0.mk (below_step (by repeat (first | (with_reducible first | exact HB.out | apply below_alloc | apply pw_below_drewN | apply below_drew1 | refine below_set ?_ GE197.out | refine below_set ?_ GE198.out | refine below_set ?_ GE202.out | refine below_set ?_ GE206.out) | exact HB.out)) hb)
      clear BK197
      clear BK198
      clear BK202
      clear BK206
      clear HB
      have BK197 := n0_
      have BK198 := n1_
      have BK202 := n2_
      have BK206 := n3_
      have HB := n4_
      clear n0_ n1_ n2_ n3_ n4_
      (try clear hb)
      (try clear hb2)
      (try clear hk)
      (try clear hi)
      refine hK.out _ _ ⟨(blk_cell BK202.out 0).trans rfl, (blk_cell BK202.out 1).trans rfl, (blk_cell BK206.out 0).trans rfl, (blk_cell BK206.out 1).trans rfl, (blk_cell BK197.out 0).trans rfl, (blk_cell BK197.out 1).trans rfl, (blk_cell BK197.out 2).trans rfl, (blk_cell BK197.out 3).trans rfl, (blk_cell BK197.out 4).trans rfl, (blk_cell BK197.out 5).trans rfl, (blk_cell BK197.out 6).trans rfl, (blk_cell BK197.out 7).trans rfl, (blk_cell BK198.out 0).trans rfl, (blk_cell BK198.out 1).trans rfl⟩ (fun hHeld => ?_)
      clear hK K
      refine norm_ (a' := ?_) ?_ ?_
      rotate_left
      · show Act.put _ (some 41) _ = _
        simp only [Act.put, List.setIfInBounds_toArray, List.set_cons_zero, List.set_cons_succ, i64_w, i32_w]
        rfl
      refine one_ (i := 17) (N := some 44) #[true, true, true, true, true, true, true, true, true, true, true, true, true, true, true, true, true, true, false, false, false] rfl rfl (one_of HT_.out (by kernel_rfl)) (by decide) (fun K hK => ?_)
      refine goes_ Tryd.func13 (by kernel_rfl) rfl #[.agg #[.string a0_0, .int .i64 a0_1, .int .i64 a0_2, .int .i64 a0_3, .int .i64 a0_4, .int .i64 a0_5, .int .i64 a0_6, .int .i64 a0_7], .agg #[.int .i64 a1_0, .int .i64 a1_1]] (by rfl) rfl rfl (by (try simp only [List.map_toArray, List.map_cons, List.map_nil]); first | done | rfl | (simp only [List.length_drop, List.length_take]; rfl)) ?_
      with_reducible refine (chargeparkref24_Valid.calls k a0_0 a0_1 a0_2 a0_3 a0_4 a0_5 a0_6 a0_7 a1_0 a1_1 t208 _ A10.out).mono ?_
      rintro e w33 ⟨rfl, hb⟩
      refine ⟨_, rfl, ?_⟩
      have n0_ := Aside0.mk (blk_below (g := gb197) (o := .cells #[.string a0_0, .int .i64 a0_1, .int .i64 a0_2, .int .i64 a0_3, .int .i64 a0_4, .int .i64 a0_5, .int .i64 a0_6, .int .i64 a0_7] 23 (0, 0)) (by (with_reducible repeat (first | refine blk_drewN ?_ _ | refine blk_drew ?_ | refine blk_alloc ?_ _)); exact BK197.out) hb)
      have n1_ := Aside0.mk (blk_below (g := gb198) (o := .cells #[.int .i64 a1_0, .int .i64 a1_1] 25 (0, 0)) (by (with_reducible repeat (first | refine blk_drewN ?_ _ | refine blk_drew ?_ | refine blk_alloc ?_ _)); exact BK198.out) hb)
      have n2_ := Aside0.mk (blk_below (g := gb202) (o := .cells #[.int .i64 t199, .int .i64 t200] 25 (0, 0)) (by (with_reducible repeat (first | refine blk_drewN ?_ _ | refine blk_drew ?_ | refine blk_alloc ?_ _)); exact BK202.out) hb)
      have n3_ := Aside0.mk (blk_below (g := gb206) (o := .cells #[.int .i64 t203, .int .i64 t204] 25 (0, 0)) (by (with_reducible repeat (first | refine blk_drewN ?_ _ | refine blk_drew ?_ | refine blk_alloc ?_ _)); exact BK206.out) hb)
      have n4_ := Aside0.mk (below_step (by repeat (first | (with_reducible first | exact HB.out | apply below_alloc | apply pw_below_drewN | apply below_drew1 | refine below_set ?_ GE197.out | refine below_set ?_ GE198.out | refine below_set ?_ GE202.out | refine below_set ?_ GE206.out) | exact HB.out)) hb)
      clear BK197
      clear BK198
      clear BK202
      clear BK206
      clear HB
      have BK197 := n0_
      have BK198 := n1_
      have BK202 := n2_
      have BK206 := n3_
      have HB := n4_
      clear n0_ n1_ n2_ n3_ n4_
      (try clear hb)
      (try clear hb2)
      (try clear hk)
      (try clear hi)
      refine hK.out _ _ ⟨(blk_cell BK202.out 0).trans rfl, (blk_cell BK202.out 1).trans rfl, (blk_cell BK206.out 0).trans rfl, (blk_cell BK206.out 1).trans rfl, (blk_cell BK197.out 0).trans rfl, (blk_cell BK197.out 1).trans rfl, (blk_cell BK197.out 2).trans rfl, (blk_cell BK197.out 3).trans rfl, (blk_cell BK197.out 4).trans rfl, (blk_cell BK197.out 5).trans rfl, (blk_cell BK197.out 6).trans rfl, (blk_cell BK197.out 7).trans rfl, (blk_cell BK198.out 0).trans rfl, (blk_cell BK198.out 1).trans rfl⟩ (fun hHeld => ?_)
      clear hK K
      refine norm_ (a' := ?_) ?_ ?_
      rotate_left
      · show Act.put _ (some 44) _ = _
        simp only [Act.put, List.setIfInBounds_toArray, List.set_cons_zero, List.set_cons_succ, i64_w, i32_w]
        rfl
      refine pure_ (i := 18) (N := some 45) (v := ?_) (a' := ?_) #[true, true, true, true, true, true, true, true, true, true, true, true, true, true, true, true, true, true, true, false, false] rfl rfl (any_of HT_.out (by kernel_rfl)) (fun _ _ _ h => h) (Or.inl ⟨by rfl, ?_⟩) ?_ ?_
      rotate_left
      · intro w'
        go_simp
        with_reducible rfl
      rotate_left
      · simp only [Act.put, List.setIfInBounds_toArray, List.set_cons_zero, List.set_cons_succ, i64_w, i32_w]
        rfl
      refine pure_ (i := 19) (N := some 46) (v := ?_) (a' := ?_) #[true, true, true, true, true, true, true, true, true, true, true, true, true, true, true, true, true, true, true, true, false] rfl rfl (any_of HT_.out (by kernel_rfl)) (fun _ _ _ h => h) (Or.inl ⟨by rfl, ?_⟩) ?_ ?_
      rotate_left
      · intro w'
        go_simp
        with_reducible rfl
      rotate_left
      · simp only [Act.put, List.setIfInBounds_toArray, List.set_cons_zero, List.set_cons_succ, i64_w, i32_w]
        rfl
      refine pure_ (i := 20) (N := some 6) (v := ?_) (a' := ?_) #[true, true, true, true, true, true, true, true, true, true, true, true, true, true, true, true, true, true, true, true, true] rfl rfl (any_of HT_.out (by kernel_rfl)) (fun _ _ _ h => h) (Or.inl ⟨by rfl, ?_⟩) ?_ ?_
      rotate_left
      · intro w'
        go_simp
        with_reducible rfl
      rotate_left
      · simp only [Act.put, List.setIfInBounds_toArray, List.set_cons_zero, List.set_cons_succ, i64_w, i32_w]
        rfl
      refine done_ (done_of HT_.out (by kernel_rfl)) ?_
      try go_wp2
      go_ret
      exact ⟨by first | rfl | (simp [errW_none, errW_some] <;> rfl) | (simp [*, errW_none, errW_some] <;> rfl), by repeat (first | (with_reducible first | exact HB.out | apply below_alloc | apply pw_below_drewN | apply below_drew1 | refine below_set ?_ GE197.out | refine below_set ?_ GE198.out | refine below_set ?_ GE202.out | refine below_set ?_ GE206.out) | exact HB.out)⟩
    · rw [if_neg c8] at H
      have c8b0 : (t201 == t205) = false := beq_eq_false_iff_ne.mpr c8
      have c8b1 : (t201 != t205) = true := bne_iff_ne.mpr c8
      obtain rfl := Option.some.inj H
      exact absurd hr.out (by decide)
  · rw [if_neg c7] at H
    have c7b0 : (t199 == t203 && (t200 == t204)) = false := by simpa using c7
    (try (have c7b1 : decide (t199 = t203 && (t200 == t204)) = false := by simpa using c7))
    (try (have c7b2 : (t199 == t203 && (t200 == t204)) = false := by simpa using c7))
    (try (have c7b3 : ¬ (t199 = t203 && (t200 == t204)) := by simpa using c7))
    clear c7
    obtain rfl := Option.some.inj H
    exact absurd hr.out (by decide)

end Go.Proofs.YtagphncpdhaklaaDoor.PAll
