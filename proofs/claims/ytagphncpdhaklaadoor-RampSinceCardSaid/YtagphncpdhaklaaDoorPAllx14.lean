/- What the Go functions of this seat's laws return, told as Lean functions and proved by their walks; laid by a program of this session out of Lean's own print of the translation. No conditions of its own. -/
import Derived.Test.YtagphncpdhaklaaDoorPAllx0
import Derived.Test.YtagphncpdhaklaaDoorPAllx4
import Derived.Test.YtagphncpdhaklaaDoorPAllx6
import Derived.Test.YtagphncpdhaklaaDoorPAllx7
namespace Go.Proofs.YtagphncpdhaklaaDoor.PAll
open Go.RowKit Go.Proofs.YtagphncpdhaklaaDoorW.PrintWords Go.Proofs.YtagphncpdhaklaaDoorW.PrintLast Go.Proofs.YtagphncpdhaklaaDoorW.PrintMore
attribute [local go_sem] max2_int min2_int max_two min_two max_three min_three max_four min_four   -- for this text's walks alone
set_option linter.unusedVariables false
set_option linter.unusedSimpArgs false

/-! ### chargeparklaw24_RampSince: function 8 -/
mutual
def chargeparklaw24_RampSince.j0 : Nat → List Int → Bool → Bool → ByteArray → Int → Int → Int → Int → Int → Int → Int → Int → Int → Option (Bool)
  | 0, _, _, _, _, _, _, _, _, _, _, _, _, _ => none
  | k + 1, x2, x7, x24, x253000, x253001, x253002, x253003, x253004, x253005, x253006, x253007, x254000, x254001 => if x24 = true then (some x7) else (chargeparklaw24_RampSince.l0 k x2 x7 x254001 0 x253000 x253001 x253002 x253003 x253004 x253005 x253006 x253007 x254000 x254001)
def chargeparklaw24_RampSince.l0 : Nat → List Int → Bool → Int → Int → ByteArray → Int → Int → Int → Int → Int → Int → Int → Int → Int → Option (Bool)
  | 0, _, _, _, _, _, _, _, _, _, _, _, _, _, _ => none
  | k + 1, x2, x7, x9, x10, x253000, x253001, x253002, x253003, x253004, x253005, x253006, x253007, x254000, x254001 => if x10 < (x2.length : Int) then (if 0 ≤ x10 then ((ramp_Next.f x253000 x253001 x253002 x253003 x253004 x253005 x253006 x253007 x254000 x254001 (rd x2 x10)).bind fun bt257 => (if bt257.2.2 = 0 then (if ((bt257.1 == 0) != (x254000 == 0)) = true then (if x7 = true then (chargeparklaw24_RampSince.l0 k x2 (bt257.2.1 == (mn 0 1000000)) 0 (wrap64 (x10 + 1)) x253000 x253001 x253002 x253003 x253004 x253005 x253006 x253007 bt257.1 bt257.2.1) else (chargeparklaw24_RampSince.l0 k x2 false 0 (wrap64 (x10 + 1)) x253000 x253001 x253002 x253003 x253004 x253005 x253006 x253007 bt257.1 bt257.2.1)) else (if x7 = true then (chargeparklaw24_RampSince.l0 k x2 (bt257.2.1 == (mn (wrap64 (x9 + 1)) 1000000)) (wrap64 (x9 + 1)) (wrap64 (x10 + 1)) x253000 x253001 x253002 x253003 x253004 x253005 x253006 x253007 bt257.1 bt257.2.1) else (chargeparklaw24_RampSince.l0 k x2 false (wrap64 (x9 + 1)) (wrap64 (x10 + 1)) x253000 x253001 x253002 x253003 x253004 x253005 x253006 x253007 bt257.1 bt257.2.1))) else (chargeparklaw24_RampSince.l0 k x2 x7 x9 (wrap64 (x10 + 1)) x253000 x253001 x253002 x253003 x253004 x253005 x253006 x253007 x254000 x254001))) else (none)) else ((chargeparkref12_Charger.f x253000 x253001 x253002 x253003 x253004 x253005 x253006 x253007).bind fun t255 => (if x7 = true then (some t255) else (some false)))
end
def chargeparklaw24_RampSince.f (k : Nat) (a0_0 : ByteArray) (a0_1 : Int) (a0_2 : Int) (a0_3 : Int) (a0_4 : Int) (a0_5 : Int) (a0_6 : Int) (a0_7 : Int) (a1_0 : Int) (a1_1 : Int) (l2 : List Int) : Option (Bool) := (chargeparklaw24_head_c.f).bind fun _ => ((chargeparkref24_Valid.f k a0_0 a0_1 a0_2 a0_3 a0_4 a0_5 a0_6 a0_7 a1_0 a1_1).bind fun t254 => (if t254 = true then (chargeparklaw24_RampSince.j0 k l2 true (decide ((l2.length : Int) > 200)) a0_0 a0_1 a0_2 a0_3 a0_4 a0_5 a0_6 a0_7 a1_0 a1_1) else (chargeparklaw24_RampSince.j0 k l2 true true a0_0 a0_1 a0_2 a0_3 a0_4 a0_5 a0_6 a0_7 a1_0 a1_1)))
theorem chargeparklaw24_RampSince.mono_l : ∀ k, (∀ y0 y1 y2 y3 y4 y5 y6 y7 y8 y9 y10 y11 y12, LeO (chargeparklaw24_RampSince.j0 k y0 y1 y2 y3 y4 y5 y6 y7 y8 y9 y10 y11 y12) (chargeparklaw24_RampSince.j0 (k + 1) y0 y1 y2 y3 y4 y5 y6 y7 y8 y9 y10 y11 y12)) ∧ (∀ y0 y1 y2 y3 y4 y5 y6 y7 y8 y9 y10 y11 y12 y13, LeO (chargeparklaw24_RampSince.l0 k y0 y1 y2 y3 y4 y5 y6 y7 y8 y9 y10 y11 y12 y13) (chargeparklaw24_RampSince.l0 (k + 1) y0 y1 y2 y3 y4 y5 y6 y7 y8 y9 y10 y11 y12 y13))
  | 0 => ⟨fun _ _ _ _ _ _ _ _ _ _ _ _ _ r h => by simp [chargeparklaw24_RampSince.j0] at h, fun _ _ _ _ _ _ _ _ _ _ _ _ _ _ r h => by simp [chargeparklaw24_RampSince.l0] at h⟩
  | k + 1 => by
    obtain ⟨ih0, ih1⟩ := chargeparklaw24_RampSince.mono_l k
    refine ⟨?_, ?_⟩
    · intro y0 y1 y2 y3 y4 y5 y6 y7 y8 y9 y10 y11 y12
      unfold chargeparklaw24_RampSince.j0
      repeat' first
      | (with_reducible exact ih0 _ _ _ _ _ _ _ _ _ _ _ _ _)
      | (with_reducible exact ih1 _ _ _ _ _ _ _ _ _ _ _ _ _ _)
      | (with_reducible exact chargeparkref24_Valid.mono _ _ _ _ _ _ _ _ _ _ _)
      | (with_reducible exact LeO.refl _)
      | (with_reducible exact LeO.none _)
      | (with_reducible refine LeO.ite ?_ ?_)
      | (with_reducible refine LeO.bind ?_ (fun _ => ?_))
      | exact ih0 _ _ _ _ _ _ _ _ _ _ _ _ _
      | exact ih1 _ _ _ _ _ _ _ _ _ _ _ _ _ _
      | exact chargeparkref24_Valid.mono _ _ _ _ _ _ _ _ _ _ _
      | exact LeO.none _
      | refine LeO.ite ?_ ?_
      | refine LeO.bind ?_ (fun _ => ?_)
    · intro y0 y1 y2 y3 y4 y5 y6 y7 y8 y9 y10 y11 y12 y13
      unfold chargeparklaw24_RampSince.l0
      repeat' first
      | (with_reducible exact ih0 _ _ _ _ _ _ _ _ _ _ _ _ _)
      | (with_reducible exact ih1 _ _ _ _ _ _ _ _ _ _ _ _ _ _)
      | (with_reducible exact chargeparkref24_Valid.mono _ _ _ _ _ _ _ _ _ _ _)
      | (with_reducible exact LeO.refl _)
      | (with_reducible exact LeO.none _)
      | (with_reducible refine LeO.ite ?_ ?_)
      | (with_reducible refine LeO.bind ?_ (fun _ => ?_))
      | exact ih0 _ _ _ _ _ _ _ _ _ _ _ _ _
      | exact ih1 _ _ _ _ _ _ _ _ _ _ _ _ _ _
      | exact chargeparkref24_Valid.mono _ _ _ _ _ _ _ _ _ _ _
      | exact LeO.none _
      | refine LeO.ite ?_ ?_
      | refine LeO.bind ?_ (fun _ => ?_)
theorem chargeparklaw24_RampSince.mono : ∀ a0 a1 a2 a3 a4 a5 a6 a7 a8 a9 a10 k, LeO (chargeparklaw24_RampSince.f k a0 a1 a2 a3 a4 a5 a6 a7 a8 a9 a10) (chargeparklaw24_RampSince.f (k + 1) a0 a1 a2 a3 a4 a5 a6 a7 a8 a9 a10) := by
  intro a0 a1 a2 a3 a4 a5 a6 a7 a8 a9 a10 k
  obtain ⟨ih0, ih1⟩ := chargeparklaw24_RampSince.mono_l k
  unfold chargeparklaw24_RampSince.f
  repeat' first
      | (with_reducible exact ih0 _ _ _ _ _ _ _ _ _ _ _ _ _)
      | (with_reducible exact ih1 _ _ _ _ _ _ _ _ _ _ _ _ _ _)
      | (with_reducible exact chargeparkref24_Valid.mono _ _ _ _ _ _ _ _ _ _ _)
      | (with_reducible exact LeO.refl _)
      | (with_reducible exact LeO.none _)
      | (with_reducible refine LeO.ite ?_ ?_)
      | (with_reducible refine LeO.bind ?_ (fun _ => ?_))
      | exact ih0 _ _ _ _ _ _ _ _ _ _ _ _ _
      | exact ih1 _ _ _ _ _ _ _ _ _ _ _ _ _ _
      | exact chargeparkref24_Valid.mono _ _ _ _ _ _ _ _ _ _ _
      | exact LeO.none _
      | refine LeO.ite ?_ ?_
      | refine LeO.bind ?_ (fun _ => ?_)
def chargeparklaw24_RampSince.T9 : Bool × List (List Nat × List Nat) := (true, [([], []), ([], []), ([], []), ([], []), ([2, 3], [2, 3]), ([4], [4]), ([0, 1, 5], [0, 1, 5]), ([6], [6]), ([7], [7]), ([7], [7]), ([], []), ([10, 8, 6, 0, 1, 2, 3, 4, 5, 6, 7, 8, 10], [8, 10]), ([9, 11, 0, 1, 2, 3, 4, 5, 6, 7, 8, 9, 10, 11], [9])])
def chargeparklaw24_RampSince.B9 : List Nat := [0, 0, 0, 0, 12, 28, 63, 127, 255, 255, 0, 1535, 4095]
theorem chargeparklaw24_RampSince.tab9 : rtab .any (opsOf Tryd.f8 9) = chargeparklaw24_RampSince.T9 := by kernel_rfl
theorem chargeparklaw24_RampSince.bits9 : waitsOk chargeparklaw24_RampSince.T9.2 chargeparklaw24_RampSince.B9 = true := by kernel_rfl
set_option maxHeartbeats 8000000 in
set_option maxRecDepth 100000 in
theorem chargeparklaw24_RampSince.calls (k : Nat) (a0_0 : ByteArray) (a0_1 : Int) (a0_2 : Int) (a0_3 : Int) (a0_4 : Int) (a0_5 : Int) (a0_6 : Int) (a0_7 : Int) (a1_0 : Int) (a1_1 : Int) (A2 : Option Addr) (c2 : Nat) (l2 : List Int) (r : Bool) (w : World) (hG : Hand.G w) (hr2 : Kd.C (Kd.int .i64) w A2 l2.length l2) (hc2 : l2.length ≤ c2) (h : chargeparklaw24_RampSince.f k a0_0 a0_1 a0_2 a0_3 a0_4 a0_5 a0_6 a0_7 a1_0 a1_1 l2 = some r) (hr : Aside0 (r = true)) :
    Calls Tryd.prog 8 #[.agg #[.string a0_0, .int .i64 a0_1, .int .i64 a0_2, .int .i64 a0_3, .int .i64 a0_4, .int .i64 a0_5, .int .i64 a0_6, .int .i64 a0_7], .agg #[.int .i64 a1_0, .int .i64 a1_1], .slice A2 l2.length c2] w fun e w' => e = .returned (.bool r) ∧ Below w.heap.size w w' := by
  have hu23 := Tryd.underlying23
  have hu25 := Tryd.underlying25
  have HR2 := Aside0.mk hr2
  have HC2 := Aside0.mk hc2
  clear hr2 hc2
  have HB := Aside0.mk (Below.refl w.heap.size w)
  have H : ((chargeparklaw24_head_c.f).bind fun _ => ((chargeparkref24_Valid.f k a0_0 a0_1 a0_2 a0_3 a0_4 a0_5 a0_6 a0_7 a1_0 a1_1).bind fun t254 => (if t254 = true then (chargeparklaw24_RampSince.j0 k l2 true (decide ((l2.length : Int) > 200)) a0_0 a0_1 a0_2 a0_3 a0_4 a0_5 a0_6 a0_7 a1_0 a1_1) else (chargeparklaw24_RampSince.j0 k l2 true true a0_0 a0_1 a0_2 a0_3 a0_4 a0_5 a0_6 a0_7 a1_0 a1_1)))) = some r := h
  clear h
  replace H := Option.bind_eq_some_iff.mp H
  obtain ⟨tc_, A40, H⟩ := H
  obtain rfl : true = tc_ := Option.some.inj ((show chargeparklaw24_head_c.f = some true by kernel_rfl).symm.trans A40)
  replace H : ((chargeparkref24_Valid.f k a0_0 a0_1 a0_2 a0_3 a0_4 a0_5 a0_6 a0_7 a1_0 a1_1).bind fun t254 => (if t254 = true then (chargeparklaw24_RampSince.j0 k l2 true (decide ((l2.length : Int) > 200)) a0_0 a0_1 a0_2 a0_3 a0_4 a0_5 a0_6 a0_7 a1_0 a1_1) else (chargeparklaw24_RampSince.j0 k l2 true true a0_0 a0_1 a0_2 a0_3 a0_4 a0_5 a0_6 a0_7 a1_0 a1_1))) = some r := H
  have A4 := Aside0.mk A40
  clear A40
  replace H := Option.bind_eq_some_iff.mp H
  obtain ⟨t254, A50, H⟩ := H
  replace H : (if t254 = true then (chargeparklaw24_RampSince.j0 k l2 true (decide ((l2.length : Int) > 200)) a0_0 a0_1 a0_2 a0_3 a0_4 a0_5 a0_6 a0_7 a1_0 a1_1) else (chargeparklaw24_RampSince.j0 k l2 true true a0_0 a0_1 a0_2 a0_3 a0_4 a0_5 a0_6 a0_7 a1_0 a1_1)) = some r := H
  have A5 := Aside0.mk A50
  clear A50
  have HC6 := Aside0.mk H
  clear H
  go_enter Tryd.func8, Tryd.ntmps8
  go_upto_region 3 with (first | ((with_reducible refine gate_dst (N := 3) rfl ?_); (try (refine gate_guard (by rfl) ?_; dsimp only)); refine box_event ?hg (N := 3) ?hd (cs := #[.string a0_0, .int .i64 a0_1, .int .i64 a0_2, .int .i64 a0_3, .int .i64 a0_4, .int .i64 a0_5, .int .i64 a0_6, .int .i64 a0_7]) (t := 23) ?hr ?_; (case hd => rfl); (case hg => rfl); (case hr => first | (go_simp; done) | (go_simp; rfl)); intro gb252 hg w7 hbox hb; have n0_ := Aside0.mk (below_step (by repeat (first | (with_reducible first | exact HB.out | apply below_alloc | apply pw_below_drewN | apply below_drew1) | exact HB.out)) hb); have n1_ := Aside0.mk (hbox); have n2_ := Aside0.mk ((by rw [hg]; exact (below_size (by repeat (first | (with_reducible first | exact HB.out | apply below_alloc | apply pw_below_drewN | apply below_drew1) | exact HB.out))) : w.heap.size ≤ gb252)); have n3_ := Aside0.mk ((by rw [hg]; exact (below_size (by repeat (first | (with_reducible first | exact HB.out | apply below_alloc | apply pw_below_drewN | apply below_drew1) | exact HB.out))) : w.heap.size ≤ gb252)); clear HB; have HB := n0_; have BK252 := n1_; have GW252 := n2_; have GE252 := n3_; clear n0_ n1_ n2_ n3_; clear hb hbox hg) | ((with_reducible refine gate_dst (N := 4) rfl ?_); (try (refine gate_guard (by rfl) ?_; dsimp only)); refine box_event ?hg (N := 4) ?hd (cs := #[.int .i64 a1_0, .int .i64 a1_1]) (t := 25) ?hr ?_; (case hd => rfl); (case hg => rfl); (case hr => first | (go_simp; done) | (go_simp; rfl)); intro gb253 hg w8 hbox hb; have n0_ := Aside0.mk (blk_below (g := gb252) (o := .cells #[.string a0_0, .int .i64 a0_1, .int .i64 a0_2, .int .i64 a0_3, .int .i64 a0_4, .int .i64 a0_5, .int .i64 a0_6, .int .i64 a0_7] 23 (0, 0)) (by (with_reducible repeat (first | refine blk_drewN ?_ _ | refine blk_drew ?_ | refine blk_alloc ?_ _)); exact BK252.out) hb); have n1_ := Aside0.mk (below_step (by repeat (first | (with_reducible first | exact HB.out | apply below_alloc | apply pw_below_drewN | apply below_drew1 | refine below_set ?_ GE252.out) | exact HB.out)) hb); have n2_ := Aside0.mk (hbox); have n3_ := Aside0.mk ((by rw [hg]; exact (below_size (by repeat (first | (with_reducible first | exact HB.out | apply below_alloc | apply pw_below_drewN | apply below_drew1 | refine below_set ?_ GE252.out) | exact HB.out))) : w.heap.size ≤ gb253)); have n4_ := Aside0.mk ((by rw [hg]; exact (below_size (by repeat (first | (with_reducible first | exact HB.out | apply below_alloc | apply pw_below_drewN | apply below_drew1 | refine below_set ?_ GE252.out) | exact HB.out))) : w.heap.size ≤ gb253)); have n5_ := Aside0.mk ((by rw [hg]; exact Nat.ne_of_lt (blk_lt (g := gb252) (o := .cells #[.string a0_0, .int .i64 a0_1, .int .i64 a0_2, .int .i64 a0_3, .int .i64 a0_4, .int .i64 a0_5, .int .i64 a0_6, .int .i64 a0_7] 23 (0, 0)) (by (with_reducible repeat (first | refine blk_drewN ?_ _ | refine blk_drew ?_ | refine blk_alloc ?_ _)); exact BK252.out)) : gb252 ≠ gb253)); have n6_ := Aside0.mk ((by rw [hg]; exact Nat.ne_of_gt (blk_lt (g := gb252) (o := .cells #[.string a0_0, .int .i64 a0_1, .int .i64 a0_2, .int .i64 a0_3, .int .i64 a0_4, .int .i64 a0_5, .int .i64 a0_6, .int .i64 a0_7] 23 (0, 0)) (by (with_reducible repeat (first | refine blk_drewN ?_ _ | refine blk_drew ?_ | refine blk_alloc ?_ _)); exact BK252.out)) : gb253 ≠ gb252)); clear BK252; clear HB; have BK252 := n0_; have HB := n1_; have BK253 := n2_; have GW253 := n3_; have GE253 := n4_; have NB252_253 := n5_; have NB253_252 := n6_; clear n0_ n1_ n2_ n3_ n4_ n5_ n6_; clear hb hbox hg) | ((with_reducible refine gate_callee (f := 9) rfl ?_); refine goesL_ (some 14) rfl rfl Tryd.func9 (by kernel_rfl) rfl #[] rfl (by (try simp only [List.map_toArray, List.map_cons, List.map_nil]); first | done | rfl | (simp only [List.length_drop, List.length_take]; rfl)) ?_; (with_reducible refine (chargeparklaw24_head_c.calls  true _ (hG.below (by repeat (first | (with_reducible first | exact HB.out | apply below_alloc | apply pw_below_drewN | apply below_drew1) | exact HB.out))) A4.out).mono ?_); rintro e w9 ⟨rfl, hb⟩; refine ⟨_, rfl, ?_⟩; have n0_ := Aside0.mk (blk_below (g := gb252) (o := .cells #[.string a0_0, .int .i64 a0_1, .int .i64 a0_2, .int .i64 a0_3, .int .i64 a0_4, .int .i64 a0_5, .int .i64 a0_6, .int .i64 a0_7] 23 (0, 0)) (by (with_reducible repeat (first | refine blk_drewN ?_ _ | refine blk_drew ?_ | refine blk_alloc ?_ _)); exact BK252.out) hb); have n1_ := Aside0.mk (blk_below (g := gb253) (o := .cells #[.int .i64 a1_0, .int .i64 a1_1] 25 (0, 0)) (by (with_reducible repeat (first | refine blk_drewN ?_ _ | refine blk_drew ?_ | refine blk_alloc ?_ _)); exact BK253.out) hb); have n2_ := Aside0.mk (below_step (by repeat (first | (with_reducible first | exact HB.out | apply below_alloc | apply pw_below_drewN | apply below_drew1 | refine below_set ?_ GE252.out | refine below_set ?_ GE253.out) | exact HB.out)) hb); clear BK252; clear BK253; clear HB; have BK252 := n0_; have BK253 := n1_; have HB := n2_; clear n0_ n1_ n2_; (try clear hb); (try clear hb2); (try clear hk); (try clear hi); have hnb10 := NB252_253.out; have hnc10 := NB253_252.out; have hcz11_0 : w9.cell? ⟨gb252, 0, none⟩ = some (.string a0_0) := (blk_cell BK252.out 0).trans rfl; have hcz11_1 : w9.cell? ⟨gb252, 1, none⟩ = some (.int .i64 a0_1) := (blk_cell BK252.out 1).trans rfl; have hcz11_2 : w9.cell? ⟨gb252, 2, none⟩ = some (.int .i64 a0_2) := (blk_cell BK252.out 2).trans rfl; have hcz11_3 : w9.cell? ⟨gb252, 3, none⟩ = some (.int .i64 a0_3) := (blk_cell BK252.out 3).trans rfl; have hcz11_4 : w9.cell? ⟨gb252, 4, none⟩ = some (.int .i64 a0_4) := (blk_cell BK252.out 4).trans rfl; have hcz11_5 : w9.cell? ⟨gb252, 5, none⟩ = some (.int .i64 a0_5) := (blk_cell BK252.out 5).trans rfl; have hcz11_6 : w9.cell? ⟨gb252, 6, none⟩ = some (.int .i64 a0_6) := (blk_cell BK252.out 6).trans rfl; have hcz11_7 : w9.cell? ⟨gb252, 7, none⟩ = some (.int .i64 a0_7) := (blk_cell BK252.out 7).trans rfl; have hfz11_0 := blk_frozen BK252.out 0; have hfz11_1 := blk_frozen BK252.out 1; have hfz11_2 := blk_frozen BK252.out 2; have hfz11_3 := blk_frozen BK252.out 3; have hfz11_4 := blk_frozen BK252.out 4; have hfz11_5 := blk_frozen BK252.out 5; have hfz11_6 := blk_frozen BK252.out 6; have hfz11_7 := blk_frozen BK252.out 7; have hcz12_0 : w9.cell? ⟨gb253, 0, none⟩ = some (.int .i64 a1_0) := (blk_cell BK253.out 0).trans rfl; have hcz12_1 : w9.cell? ⟨gb253, 1, none⟩ = some (.int .i64 a1_1) := (blk_cell BK253.out 1).trans rfl; have hfz12_0 := blk_frozen BK253.out 0; have hfz12_1 := blk_frozen BK253.out 1) | ((with_reducible refine gate_callee (f := 13) rfl ?_); refine goesL_ (some 17) rfl rfl Tryd.func13 (by kernel_rfl) rfl #[.agg #[.string a0_0, .int .i64 a0_1, .int .i64 a0_2, .int .i64 a0_3, .int .i64 a0_4, .int .i64 a0_5, .int .i64 a0_6, .int .i64 a0_7], .agg #[.int .i64 a1_0, .int .i64 a1_1]] rfl (by (try simp only [List.map_toArray, List.map_cons, List.map_nil]); first | done | rfl | (simp only [List.length_drop, List.length_take]; rfl)) ?_; (with_reducible refine (chargeparkref24_Valid.calls k a0_0 a0_1 a0_2 a0_3 a0_4 a0_5 a0_6 a0_7 a1_0 a1_1 t254 _ A5.out).mono ?_); rintro e w13 ⟨rfl, hb⟩; refine ⟨_, rfl, ?_⟩; have n0_ := Aside0.mk (blk_below (g := gb252) (o := .cells #[.string a0_0, .int .i64 a0_1, .int .i64 a0_2, .int .i64 a0_3, .int .i64 a0_4, .int .i64 a0_5, .int .i64 a0_6, .int .i64 a0_7] 23 (0, 0)) (by (with_reducible repeat (first | refine blk_drewN ?_ _ | refine blk_drew ?_ | refine blk_alloc ?_ _)); exact BK252.out) hb); have n1_ := Aside0.mk (blk_below (g := gb253) (o := .cells #[.int .i64 a1_0, .int .i64 a1_1] 25 (0, 0)) (by (with_reducible repeat (first | refine blk_drewN ?_ _ | refine blk_drew ?_ | refine blk_alloc ?_ _)); exact BK253.out) hb); have n2_ := Aside0.mk (below_step (by repeat (first | (with_reducible first | exact HB.out | apply below_alloc | apply pw_below_drewN | apply below_drew1 | refine below_set ?_ GE252.out | refine below_set ?_ GE253.out) | exact HB.out)) hb); clear BK252; clear BK253; clear HB; have BK252 := n0_; have BK253 := n1_; have HB := n2_; clear n0_ n1_ n2_; (try clear hb); (try clear hb2); (try clear hk); (try clear hi)))
  (try simp only [Act.put, List.setIfInBounds_toArray, List.set_cons_zero, List.set_cons_succ])
  go_cut [24] (fun v24 wc => ∃ (kq : Nat) (x24_5 : Bool), v24 = .bool x24_5 ∧ Aside0 (chargeparklaw24_RampSince.j0 kq l2 true x24_5 a0_0 a0_1 a0_2 a0_3 a0_4 a0_5 a0_6 a0_7 a1_0 a1_1 = some r) ∧ Aside0 (kq ≤ k) ∧ Aside0 (wc.heap[gb252]? = some (.cells #[.string a0_0, .int .i64 a0_1, .int .i64 a0_2, .int .i64 a0_3, .int .i64 a0_4, .int .i64 a0_5, .int .i64 a0_6, .int .i64 a0_7] 23 (0, 0))) ∧ Aside0 (wc.heap[gb253]? = some (.cells #[.int .i64 a1_0, .int .i64 a1_1] 25 (0, 0))) ∧ Aside0 (Below w.heap.size w wc))
  case first =>
    have H := HC6.out
    clear HC6
    by_cases c14 : t254 = true
    · subst c14
      have H1 : (chargeparklaw24_RampSince.j0 k l2 true (decide ((l2.length : Int) > 200)) a0_0 a0_1 a0_2 a0_3 a0_4 a0_5 a0_6 a0_7 a1_0 a1_1) = some r := by rw [if_pos rfl] at H; exact H
      clear H
      have H := H1
      clear H1
      have H' := Aside0.mk H
      clear H
      go_wp2
      go_meet
      case rel => exact ⟨_, (decide ((l2.length : Int) > 200)), (by first | rfl | (simp; done) | (simp [*]; done)), H', ⟨by first | omega | exact Nat.le_refl _⟩, ⟨by (with_reducible repeat (first | refine blk_drewN ?_ _ | refine blk_drew ?_ | refine blk_alloc ?_ _)); exact BK252.out⟩, ⟨by (with_reducible repeat (first | refine blk_drewN ?_ _ | refine blk_drew ?_ | refine blk_alloc ?_ _)); exact BK253.out⟩, ⟨by repeat (first | (with_reducible first | exact HB.out | apply below_alloc | apply pw_below_drewN | apply below_drew1 | refine below_set ?_ GE252.out | refine below_set ?_ GE253.out) | exact HB.out)⟩⟩
    · replace c14 := Bool.eq_false_iff.mpr c14
      subst c14
      have H1 : (chargeparklaw24_RampSince.j0 k l2 true true a0_0 a0_1 a0_2 a0_3 a0_4 a0_5 a0_6 a0_7 a1_0 a1_1) = some r := by rw [if_neg (show ¬ (false = true) by decide)] at H; exact H
      clear H
      have H := H1
      clear H1
      have H' := Aside0.mk H
      clear H
      go_wp2
      go_meet
      case rel => exact ⟨_, (true), (by first | rfl | (simp; done) | (simp [*]; done)), H', ⟨by first | omega | exact Nat.le_refl _⟩, ⟨by (with_reducible repeat (first | refine blk_drewN ?_ _ | refine blk_drew ?_ | refine blk_alloc ?_ _)); exact BK252.out⟩, ⟨by (with_reducible repeat (first | refine blk_drewN ?_ _ | refine blk_drew ?_ | refine blk_alloc ?_ _)); exact BK253.out⟩, ⟨by repeat (first | (with_reducible first | exact HB.out | apply below_alloc | apply pw_below_drewN | apply below_drew1 | refine below_set ?_ GE252.out | refine below_set ?_ GE253.out) | exact HB.out)⟩⟩
  case rest =>
    clear HC6
    try clear c1
    try clear c2
    try clear p2
    try clear c8
    try clear c9
    try clear c10
    try clear c13
    try clear c14
    try clear hcz11_0
    try clear hcz11_1
    try clear hcz11_2
    try clear hcz11_3
    try clear hcz11_4
    try clear hcz11_5
    try clear hcz11_6
    try clear hcz11_7
    try clear hcz12_0
    try clear hcz12_1
    try clear hfz11_0
    try clear hfz11_1
    try clear hfz11_2
    try clear hfz11_3
    try clear hfz11_4
    try clear hfz11_5
    try clear hfz11_6
    try clear hfz11_7
    try clear hfz12_0
    try clear hfz12_1
    obtain ⟨kq, x24_5, rfl, HA, HJ5, BK252, BK253, HB⟩ := hcut
    cases kq with
    | zero => exact absurd HA.out (by simp [chargeparklaw24_RampSince.j0])
    | succ kj5 =>
      have H := HA.out
      clear HA
      simp only [chargeparklaw24_RampSince.j0] at H
      by_cases c15 : x24_5 = true
      · subst c15
        have H1 : (some true) = some r := by rw [if_pos rfl] at H; exact H
        clear H
        have H := H1
        clear H1
        obtain rfl := Option.some.inj H
        simp only [Option.some.injEq, Prod.mk.injEq] at H
        obtain ⟨rfl⟩ := H
        go_wp2
        go_ret
        exact ⟨by first | rfl | (simp [errW_none, errW_some] <;> rfl) | (simp [*, errW_none, errW_some] <;> rfl), by repeat (first | (with_reducible first | exact HB.out | apply below_alloc | apply pw_below_drewN | apply below_drew1 | refine below_set ?_ GE252.out | refine below_set ?_ GE253.out) | exact HB.out)⟩
      · replace c15 := Bool.eq_false_iff.mpr c15
        subst c15
        have H1 : (chargeparklaw24_RampSince.l0 kj5 l2 true a1_1 0 a0_0 a0_1 a0_2 a0_3 a0_4 a0_5 a0_6 a0_7 a1_0 a1_1) = some r := by rw [if_neg (show ¬ (false = true) by decide)] at H; exact H
        clear H
        have H := H1
        clear H1
        have H' := Aside0.mk H
        clear H
        have hnb16 := NB253_252.out
        have hnc16 := NB252_253.out
        have hcz17_0 : wc.cell? ⟨gb253, 0, none⟩ = some (.int .i64 a1_0) := (blk_cell BK253.out 0).trans rfl
        have hcz17_1 : wc.cell? ⟨gb253, 1, none⟩ = some (.int .i64 a1_1) := (blk_cell BK253.out 1).trans rfl
        have hfz17_0 := blk_frozen BK253.out 0
        have hfz17_1 := blk_frozen BK253.out 1
        go_wp2
        go_loopg [7, 9, 10] kj5 (fun kq v7 v9 v10 w' => ∃ (x7_2 : Bool) (x9_2 : Int) (x10_2 : Int) (x254000_2 : Int) (x254001_2 : Int), v7 = .bool x7_2 ∧ v9 = .int .i64 x9_2 ∧ v10 = .int .i64 x10_2 ∧ Aside0 (chargeparklaw24_RampSince.l0 kq l2 x7_2 x9_2 x10_2 a0_0 a0_1 a0_2 a0_3 a0_4 a0_5 a0_6 a0_7 x254000_2 x254001_2 = some r) ∧ Aside0 (kq ≤ kj5) ∧ Aside0 (w'.heap[gb252]? = some (.cells #[.string a0_0, .int .i64 a0_1, .int .i64 a0_2, .int .i64 a0_3, .int .i64 a0_4, .int .i64 a0_5, .int .i64 a0_6, .int .i64 a0_7] 23 (0, 0))) ∧ Aside0 (w'.heap[gb253]? = some (.cells #[.int .i64 x254000_2, .int .i64 x254001_2] 25 (0, 0))) ∧ Aside0 (Below w.heap.size w w'))
        case atStart => exact ⟨(true), (a1_1), (0), (a1_0), (a1_1), (by first | rfl | (simp; done) | (simp [*]; done)), (by first | rfl | (simp; done) | (simp [*]; done)), (by first | rfl | (simp; done) | (simp [*]; done)), H', ⟨Nat.le_refl _⟩, ⟨by (with_reducible repeat (first | refine blk_drewN ?_ _ | refine blk_drew ?_ | refine blk_alloc ?_ _)); exact BK252.out⟩, ⟨by (with_reducible repeat (first | refine blk_drewN ?_ _ | refine blk_drew ?_ | refine blk_alloc ?_ _)); exact BK253.out⟩, ⟨by repeat (first | (with_reducible first | exact HB.out | apply below_alloc | apply pw_below_drewN | apply below_drew1 | refine below_set ?_ GE252.out | refine below_set ?_ GE253.out) | exact HB.out)⟩⟩
        case round =>
          clear H'
          try clear c1
          try clear c2
          try clear p2
          try clear c8
          try clear c9
          try clear c10
          try clear c13
          try clear c14
          try clear c15
          try clear c16
          try clear hcz11_0
          try clear hcz11_1
          try clear hcz11_2
          try clear hcz11_3
          try clear hcz11_4
          try clear hcz11_5
          try clear hcz11_6
          try clear hcz11_7
          try clear hcz12_0
          try clear hcz12_1
          try clear hcz17_0
          try clear hcz17_1
          try clear hfz11_0
          try clear hfz11_1
          try clear hfz11_2
          try clear hfz11_3
          try clear hfz11_4
          try clear hfz11_5
          try clear hfz11_6
          try clear hfz11_7
          try clear hfz12_0
          try clear hfz12_1
          try clear hfz17_0
          try clear hfz17_1
          try clear p2
          obtain ⟨x7_2, x9_2, x10_2, x254000_2, x254001_2, rfl, rfl, rfl, HA, HK2, BK252, BK253, HB⟩ := hrel
          cases gk with
          | zero => exact absurd HA.out (by simp [chargeparklaw24_RampSince.l0])
          | succ k2 =>
            have H := HA.out
            clear HA
            simp only [chargeparklaw24_RampSince.l0] at H
            by_cases c18 : x10_2 < (l2.length : Int)
            · rw [if_pos c18] at H
              have c18b0 : decide (x10_2 < (l2.length : Int)) = true := decide_eq_true c18
              clear c18
              by_cases c19 : 0 ≤ x10_2
              · rw [if_pos c19] at H
                have c19b0 : decide (0 ≤ x10_2) = true := decide_eq_true c19
                clear c19
                replace H := Option.bind_eq_some_iff.mp H
                obtain ⟨⟨t257, t258, t259⟩, A200, H⟩ := H
                replace H : (if t259 = 0 then (if ((t257 == 0) != (x254000_2 == 0)) = true then (if x7_2 = true then (chargeparklaw24_RampSince.l0 k2 l2 (t258 == (mn 0 1000000)) 0 (wrap64 (x10_2 + 1)) a0_0 a0_1 a0_2 a0_3 a0_4 a0_5 a0_6 a0_7 t257 t258) else (chargeparklaw24_RampSince.l0 k2 l2 false 0 (wrap64 (x10_2 + 1)) a0_0 a0_1 a0_2 a0_3 a0_4 a0_5 a0_6 a0_7 t257 t258)) else (if x7_2 = true then (chargeparklaw24_RampSince.l0 k2 l2 (t258 == (mn (wrap64 (x9_2 + 1)) 1000000)) (wrap64 (x9_2 + 1)) (wrap64 (x10_2 + 1)) a0_0 a0_1 a0_2 a0_3 a0_4 a0_5 a0_6 a0_7 t257 t258) else (chargeparklaw24_RampSince.l0 k2 l2 false (wrap64 (x9_2 + 1)) (wrap64 (x10_2 + 1)) a0_0 a0_1 a0_2 a0_3 a0_4 a0_5 a0_6 a0_7 t257 t258))) else (chargeparklaw24_RampSince.l0 k2 l2 x7_2 x9_2 (wrap64 (x10_2 + 1)) a0_0 a0_1 a0_2 a0_3 a0_4 a0_5 a0_6 a0_7 x254000_2 x254001_2)) = some r := H
                have A20 := Aside0.mk A200
                clear A200
                by_cases c21 : t259 = 0
                · rw [if_pos c21] at H
                  have c21b0 : (t259 == 0) = true := beq_iff_eq.mpr c21
                  have c21b1 : (t259 != 0) = false := bne_eq_false_iff_eq.mpr c21
                  clear c21
                  by_cases c22 : ((t257 == 0) != (x254000_2 == 0)) = true
                  · rw [if_pos c22] at H
                    have c22b0 : ((t257 == 0) != (x254000_2 == 0)) = true := c22
                    (try (have c22b1 : decide ((t257 == 0) = (x254000_2 == 0)) = false := by simpa using c22))
                    (try (have c22b2 : ((t257 == 0) == (x254000_2 == 0)) = false := by simpa using c22))
                    (try (have c22b3 : ¬ ((t257 == 0) = (x254000_2 == 0)) := by simpa using c22))
                    clear c22
                    by_cases c23 : x7_2 = true
                    · subst c23
                      have H1 : (chargeparklaw24_RampSince.l0 k2 l2 (t258 == (mn 0 1000000)) 0 (wrap64 (x10_2 + 1)) a0_0 a0_1 a0_2 a0_3 a0_4 a0_5 a0_6 a0_7 t257 t258) = some r := by rw [if_pos rfl] at H; exact H
                      clear H
                      have H := H1
                      clear H1
                      obtain ⟨ji24, hji24⟩ : ∃ j_ : Int, (mn 0 1000000) = j_ := ⟨_, rfl⟩
                      replace H : (chargeparklaw24_RampSince.l0 k2 l2 (t258 == (ji24)) 0 (wrap64 (x10_2 + 1)) a0_0 a0_1 a0_2 a0_3 a0_4 a0_5 a0_6 a0_7 t257 t258) = some r := by first | (rw [hji24] at H; exact H) | (simp only [hji24] at H ⊢; exact H)
                      (try rw [hji24] at A20)
                      (try (have hji24h : ji24 ≤ 0 := by (rw [← hji24]; unfold mn; (repeat' split) <;> omega)))
                      (try (have hji24g : ji24 ≤ 64 := by omega))
                      (try (have hji24l : 0 ≤ ji24 := by (rw [← hji24]; unfold mn; (repeat' split) <;> omega)))
                      (try (have hji24m : 0 ≤ ji24 := by omega))
                      have hji24_ : (if 1000000 < 0 then 1000000 else 0) = ji24 := hji24
                      have H' := Aside0.mk H
                      clear H
                      try go_wp2
                      have n0_ := Aside0.mk (blk_drew BK252.out)
                      have n1_ := Aside0.mk (blk_drew BK253.out)
                      have n2_ := Aside0.mk (below_drew1 HB.out)
                      clear BK252
                      clear BK253
                      clear HB
                      have BK252 := n0_
                      have BK253 := n1_
                      have HB := n2_
                      clear n0_ n1_ n2_
                      have p256 : 0 ≤ (x10_2 : Int) := of_decide_eq_true (by first | (with_reducible assumption) | assumption)
                      have q256 : x10_2 < (l2.length : Int) := of_decide_eq_true (by first | (with_reducible assumption) | assumption)
                      obtain ⟨ad256, e256, hx256_0⟩ := Kd.at_int HR2.out x10_2 p256 q256
                      have hw256_0 := hx256_0
                      cases e256
                      replace hx256_0 := (HB.out.cell (World.block_lt_of_cell? w _ hx256_0)).trans hx256_0
                      replace p256 := eq_true p256
                      replace q256 := eq_true q256
                      refine start_ (n := 13) (S := fun w' => w'.cell? ⟨gb252, 0, none⟩ = some (.string a0_0) ∧ w'.cell? ⟨gb252, 1, none⟩ = some (.int .i64 a0_1) ∧ w'.cell? ⟨gb252, 2, none⟩ = some (.int .i64 a0_2) ∧ w'.cell? ⟨gb252, 3, none⟩ = some (.int .i64 a0_3) ∧ w'.cell? ⟨gb252, 4, none⟩ = some (.int .i64 a0_4) ∧ w'.cell? ⟨gb252, 5, none⟩ = some (.int .i64 a0_5) ∧ w'.cell? ⟨gb252, 6, none⟩ = some (.int .i64 a0_6) ∧ w'.cell? ⟨gb252, 7, none⟩ = some (.int .i64 a0_7) ∧ w'.cell? ⟨gb253, 0, none⟩ = some (.int .i64 x254000_2) ∧ w'.cell? ⟨gb253, 1, none⟩ = some (.int .i64 x254001_2) ∧ w'.cell? (ad256.add (x10_2).toNat) = some (.int .i64 (rd l2 x10_2))) (ds := []) #[false, false, false, false, false, false, false, false, false, false, false, false, false] (by kernel_rfl) rfl rfl ⟨(blk_cell BK252.out 0).trans rfl, (blk_cell BK252.out 1).trans rfl, (blk_cell BK252.out 2).trans rfl, (blk_cell BK252.out 3).trans rfl, (blk_cell BK252.out 4).trans rfl, (blk_cell BK252.out 5).trans rfl, (blk_cell BK252.out 6).trans rfl, (blk_cell BK252.out 7).trans rfl, (blk_cell BK253.out 0).trans rfl, (blk_cell BK253.out 1).trans rfl, ((HB.out.cell (World.block_lt_of_cell? w _ hw256_0)).trans hw256_0)⟩ (fun hHeld => ?_); refine with_tabW chargeparklaw24_RampSince.tab9 chargeparklaw24_RampSince.bits9 (fun HT_ HW_ => ?_)
                      generalize wr.drew = w25 at BK252 BK253 HB hx256_0 hHeld ⊢
                      refine pure_ (i := 2) (N := some 37) (v := ?_) (a' := ?_) #[false, false, true, false, false, false, false, false, false, false, false, false, false] rfl rfl (any_of HT_.out (by kernel_rfl)) (fun _ _ _ h => h) (Or.inl ⟨by rfl, ?_⟩) ?_ ?_
                      rotate_left
                      · intro w'
                        go_simp
                        with_reducible rfl
                      rotate_left
                      · simp only [Act.put, List.setIfInBounds_toArray, List.set_cons_zero, List.set_cons_succ, i64_w, i32_w]
                        rfl
                      refine pure_ (i := 3) (N := some 38) (v := ?_) (a' := ?_) #[false, false, true, true, false, false, false, false, false, false, false, false, false] rfl rfl (any_of HT_.out (by kernel_rfl)) (fun _ _ _ h => h) (Or.inl ⟨by rfl, ?_⟩) ?_ ?_
                      rotate_left
                      · intro w'
                        go_simp
                        with_reducible rfl
                      rotate_left
                      · simp only [Act.put, List.setIfInBounds_toArray, List.set_cons_zero, List.set_cons_succ, i64_w, i32_w]
                        rfl
                      refine pure_ (i := 4) (N := some 39) (v := ?_) (a' := ?_) #[false, false, true, true, true, false, false, false, false, false, false, false, false] rfl rfl (any_of HT_.out (by kernel_rfl)) (fun _ _ _ h => h) (Or.inl ⟨by rfl, ?_⟩) ?_ ?_
                      rotate_left
                      · intro w'
                        go_simp
                        with_reducible rfl
                      rotate_left
                      · simp only [Act.put, List.setIfInBounds_toArray, List.set_cons_zero, List.set_cons_succ, i64_w, i32_w]
                        rfl
                      refine take_ (i := 0) (N := some 35) (v := ?_) (a' := ?_) #[true, false, true, true, true, false, false, false, false, false, false, false, false] rfl rfl (take_ofW HT_.out HW_.out (by kernel_rfl)) (fun _ _ _ h => h) (Or.inl ⟨by rfl, ?_⟩) hHeld ?_ ?_
                      rotate_left
                      · rintro w' ⟨s0, s1, s2, s3, s4, s5, s6, s7, s8, s9, s10⟩
                        go_simp
                        with_reducible rfl
                      rotate_left
                      · simp only [Act.put, List.setIfInBounds_toArray, List.set_cons_zero, List.set_cons_succ, i64_w, i32_w]
                        rfl
                      refine take_ (i := 1) (N := some 36) (v := ?_) (a' := ?_) #[true, true, true, true, true, false, false, false, false, false, false, false, false] rfl rfl (take_ofW HT_.out HW_.out (by kernel_rfl)) (fun _ _ _ h => h) (Or.inl ⟨by rfl, ?_⟩) hHeld ?_ ?_
                      rotate_left
                      · rintro w' ⟨s0, s1, s2, s3, s4, s5, s6, s7, s8, s9, s10⟩
                        go_simp
                        with_reducible rfl
                      rotate_left
                      · simp only [Act.put, List.setIfInBounds_toArray, List.set_cons_zero, List.set_cons_succ, i64_w, i32_w]
                        rfl
                      refine take_ (i := 5) (N := some 40) (v := ?_) (a' := ?_) #[true, true, true, true, true, true, false, false, false, false, false, false, false] rfl rfl (take_ofW HT_.out HW_.out (by kernel_rfl)) (fun _ _ _ h => h) (Or.inl ⟨by rfl, ?_⟩) hHeld ?_ ?_
                      rotate_left
                      · rintro w' ⟨s0, s1, s2, s3, s4, s5, s6, s7, s8, s9, s10⟩
                        go_simp
                        with_reducible rfl
                      rotate_left
                      · simp only [Act.put, List.setIfInBounds_toArray, List.set_cons_zero, List.set_cons_succ, i64_w, i32_w]
                        rfl
                      refine join_ (σ := Nat) 2 #[true, true, true, true, true, true, true, true, true, true, true, false, false] (fun s_ => [(41, .tuple #[.agg #[.int .i64 t257, .int .i64 t258], .int .i64 t259]), (11, .pointer (some ⟨s_, 0, none⟩)), (34, .tuple #[.agg #[.int .i64 t257, .int .i64 t258], .int .i64 t259]), (42, .agg #[.int .i64 t257, .int .i64 t258]), (43, .int .i64 t259)]) (fun s_ w' => (w'.cell? ⟨gb252, 0, none⟩ = some (.string a0_0) ∧ w'.cell? ⟨gb252, 1, none⟩ = some (.int .i64 a0_1) ∧ w'.cell? ⟨gb252, 2, none⟩ = some (.int .i64 a0_2) ∧ w'.cell? ⟨gb252, 3, none⟩ = some (.int .i64 a0_3) ∧ w'.cell? ⟨gb252, 4, none⟩ = some (.int .i64 a0_4) ∧ w'.cell? ⟨gb252, 5, none⟩ = some (.int .i64 a0_5) ∧ w'.cell? ⟨gb252, 6, none⟩ = some (.int .i64 a0_6) ∧ w'.cell? ⟨gb252, 7, none⟩ = some (.int .i64 a0_7) ∧ w'.cell? ⟨gb253, 0, none⟩ = some (.int .i64 x254000_2) ∧ w'.cell? ⟨gb253, 1, none⟩ = some (.int .i64 x254001_2) ∧ w'.cell? (ad256.add (x10_2).toNat) = some (.int .i64 (rd l2 x10_2))) ∧ (w'.heap[gb252]? = some (.cells #[.string a0_0, .int .i64 a0_1, .int .i64 a0_2, .int .i64 a0_3, .int .i64 a0_4, .int .i64 a0_5, .int .i64 a0_6, .int .i64 a0_7] 23 (0, 0))) ∧ (w'.heap[gb253]? = some (.cells #[.int .i64 x254000_2, .int .i64 x254001_2] 25 (0, 0))) ∧ (w'.heap[s_]? = some (.cells #[.int .i64 0, .int .i64 0] 25 (0, 0))) ∧ (w.heap.size ≤ s_) ∧ (w.heap.size ≤ s_) ∧ (gb252 ≠ s_) ∧ (s_ ≠ gb252) ∧ (gb253 ≠ s_) ∧ (s_ ≠ gb253) ∧ (Below w.heap.size w w')) ?_ ?_
                      rotate_left
                      · intro hCont
                        refine two_ (i := 6) (j := 10) (Ni := some 41) (Nj := some 11) #[true, true, true, true, true, true, true, false, false, false, false, false, false] #[true, true, true, true, true, true, false, false, false, false, true, false, false] rfl rfl rfl rfl (two_of HT_.out (by kernel_rfl)) (by decide) (by decide) (fun K hK => ?_) (fun K hK => ?_)
                        · skip
                          refine goes_ Tryd.func10 (by kernel_rfl) rfl #[.agg #[.string a0_0, .int .i64 a0_1, .int .i64 a0_2, .int .i64 a0_3, .int .i64 a0_4, .int .i64 a0_5, .int .i64 a0_6, .int .i64 a0_7], .agg #[.int .i64 x254000_2, .int .i64 x254001_2], .int .i64 (rd l2 x10_2)] (by rfl) rfl rfl (by (try simp only [List.map_toArray, List.map_cons, List.map_nil]); first | done | rfl | (simp only [List.length_drop, List.length_take]; rfl)) ?_
                          with_reducible refine (ramp_Next.calls a0_0 a0_1 a0_2 a0_3 a0_4 a0_5 a0_6 a0_7 x254000_2 x254001_2 (rd l2 x10_2) t257 t258 t259 _ (hG.below (by repeat (first | (with_reducible first | exact HB.out | apply below_alloc | apply pw_below_drewN | apply below_drew1) | exact HB.out))) A20.out).mono ?_
                          rintro e w26 ⟨rfl, hb⟩
                          refine ⟨_, rfl, ?_⟩
                          have n0_ := Aside0.mk (blk_below (g := gb252) (o := .cells #[.string a0_0, .int .i64 a0_1, .int .i64 a0_2, .int .i64 a0_3, .int .i64 a0_4, .int .i64 a0_5, .int .i64 a0_6, .int .i64 a0_7] 23 (0, 0)) (by (with_reducible repeat (first | refine blk_drewN ?_ _ | refine blk_drew ?_ | refine blk_alloc ?_ _)); exact BK252.out) hb)
                          have n1_ := Aside0.mk (blk_below (g := gb253) (o := .cells #[.int .i64 x254000_2, .int .i64 x254001_2] 25 (0, 0)) (by (with_reducible repeat (first | refine blk_drewN ?_ _ | refine blk_drew ?_ | refine blk_alloc ?_ _)); exact BK253.out) hb)
                          have n2_ := Aside0.mk (below_step (by repeat (first | (with_reducible first | exact HB.out | apply below_alloc | apply pw_below_drewN | apply below_drew1 | refine below_set ?_ GE252.out | refine below_set ?_ GE253.out) | exact HB.out)) hb)
                          clear BK252
                          clear BK253
                          clear HB
                          have BK252 := n0_
                          have BK253 := n1_
                          have HB := n2_
                          clear n0_ n1_ n2_
                          (try clear hb)
                          (try clear hb2)
                          (try clear hk)
                          (try clear hi)
                          refine hK.out _ _ ⟨(blk_cell BK252.out 0).trans rfl, (blk_cell BK252.out 1).trans rfl, (blk_cell BK252.out 2).trans rfl, (blk_cell BK252.out 3).trans rfl, (blk_cell BK252.out 4).trans rfl, (blk_cell BK252.out 5).trans rfl, (blk_cell BK252.out 6).trans rfl, (blk_cell BK252.out 7).trans rfl, (blk_cell BK253.out 0).trans rfl, (blk_cell BK253.out 1).trans rfl, ((HB.out.cell (World.block_lt_of_cell? w _ hw256_0)).trans hw256_0)⟩ (fun hHeld => ?_)
                          clear hK K
                          refine norm_ (a' := ?_) ?_ ?_
                          rotate_left
                          · show Act.put _ (some 41) _ = _
                            simp only [Act.put, List.setIfInBounds_toArray, List.set_cons_zero, List.set_cons_succ, i64_w, i32_w]
                            rfl
                          refine pure_ (i := 7) (N := some 34) (v := ?_) (a' := ?_) #[true, true, true, true, true, true, true, true, false, false, false, false, false] rfl rfl (any_of HT_.out (by kernel_rfl)) (fun _ _ _ h => h) (Or.inl ⟨by rfl, ?_⟩) ?_ ?_
                          rotate_left
                          · intro w'
                            go_simp
                            with_reducible rfl
                          rotate_left
                          · simp only [Act.put, List.setIfInBounds_toArray, List.set_cons_zero, List.set_cons_succ, i64_w, i32_w]
                            rfl
                          refine pure_ (i := 8) (N := some 42) (v := ?_) (a' := ?_) #[true, true, true, true, true, true, true, true, true, false, false, false, false] rfl rfl (any_of HT_.out (by kernel_rfl)) (fun _ _ _ h => h) (Or.inl ⟨by rfl, ?_⟩) ?_ ?_
                          rotate_left
                          · intro w'
                            go_simp
                            with_reducible rfl
                          rotate_left
                          · simp only [Act.put, List.setIfInBounds_toArray, List.set_cons_zero, List.set_cons_succ, i64_w, i32_w]
                            rfl
                          refine pure_ (i := 9) (N := some 43) (v := ?_) (a' := ?_) #[true, true, true, true, true, true, true, true, true, true, false, false, false] rfl rfl (any_of HT_.out (by kernel_rfl)) (fun _ _ _ h => h) (Or.inl ⟨by rfl, ?_⟩) ?_ ?_
                          rotate_left
                          · intro w'
                            go_simp
                            with_reducible rfl
                          rotate_left
                          · simp only [Act.put, List.setIfInBounds_toArray, List.set_cons_zero, List.set_cons_succ, i64_w, i32_w]
                            rfl
                          refine one_ (i := 10) (N := some 11) #[true, true, true, true, true, true, true, true, true, true, true, false, false] rfl rfl (one_of HT_.out (by kernel_rfl)) (by decide) (fun K hK => ?_)
                          refine box_step ?hg (N := 11) ?hd (cs := #[.int .i64 0, .int .i64 0]) (t := 25) ?hr ?_; (case hd => rfl); (case hg => rfl); (case hr => first | (go_simp; done) | (go_simp; rfl))
                          intro gb260 hg w27 hbox hb
                          have n0_ := Aside0.mk (blk_below (g := gb252) (o := .cells #[.string a0_0, .int .i64 a0_1, .int .i64 a0_2, .int .i64 a0_3, .int .i64 a0_4, .int .i64 a0_5, .int .i64 a0_6, .int .i64 a0_7] 23 (0, 0)) (by (with_reducible repeat (first | refine blk_drewN ?_ _ | refine blk_drew ?_ | refine blk_alloc ?_ _)); exact BK252.out) hb)
                          have n1_ := Aside0.mk (blk_below (g := gb253) (o := .cells #[.int .i64 x254000_2, .int .i64 x254001_2] 25 (0, 0)) (by (with_reducible repeat (first | refine blk_drewN ?_ _ | refine blk_drew ?_ | refine blk_alloc ?_ _)); exact BK253.out) hb)
                          have n2_ := Aside0.mk (below_step (by repeat (first | (with_reducible first | exact HB.out | apply below_alloc | apply pw_below_drewN | apply below_drew1 | refine below_set ?_ GE252.out | refine below_set ?_ GE253.out) | exact HB.out)) hb)
                          have n3_ := Aside0.mk (hbox)
                          have n4_ := Aside0.mk ((by rw [hg]; exact (below_size (by repeat (first | (with_reducible first | exact HB.out | apply below_alloc | apply pw_below_drewN | apply below_drew1 | refine below_set ?_ GE252.out | refine below_set ?_ GE253.out) | exact HB.out))) : w.heap.size ≤ gb260))
                          have n5_ := Aside0.mk ((by rw [hg]; exact (below_size (by repeat (first | (with_reducible first | exact HB.out | apply below_alloc | apply pw_below_drewN | apply below_drew1 | refine below_set ?_ GE252.out | refine below_set ?_ GE253.out) | exact HB.out))) : w.heap.size ≤ gb260))
                          have n6_ := Aside0.mk ((by rw [hg]; exact Nat.ne_of_lt (blk_lt (g := gb252) (o := .cells #[.string a0_0, .int .i64 a0_1, .int .i64 a0_2, .int .i64 a0_3, .int .i64 a0_4, .int .i64 a0_5, .int .i64 a0_6, .int .i64 a0_7] 23 (0, 0)) (by (with_reducible repeat (first | refine blk_drewN ?_ _ | refine blk_drew ?_ | refine blk_alloc ?_ _)); exact BK252.out)) : gb252 ≠ gb260))
                          have n7_ := Aside0.mk ((by rw [hg]; exact Nat.ne_of_gt (blk_lt (g := gb252) (o := .cells #[.string a0_0, .int .i64 a0_1, .int .i64 a0_2, .int .i64 a0_3, .int .i64 a0_4, .int .i64 a0_5, .int .i64 a0_6, .int .i64 a0_7] 23 (0, 0)) (by (with_reducible repeat (first | refine blk_drewN ?_ _ | refine blk_drew ?_ | refine blk_alloc ?_ _)); exact BK252.out)) : gb260 ≠ gb252))
                          have n8_ := Aside0.mk ((by rw [hg]; exact Nat.ne_of_lt (blk_lt (g := gb253) (o := .cells #[.int .i64 x254000_2, .int .i64 x254001_2] 25 (0, 0)) (by (with_reducible repeat (first | refine blk_drewN ?_ _ | refine blk_drew ?_ | refine blk_alloc ?_ _)); exact BK253.out)) : gb253 ≠ gb260))
                          have n9_ := Aside0.mk ((by rw [hg]; exact Nat.ne_of_gt (blk_lt (g := gb253) (o := .cells #[.int .i64 x254000_2, .int .i64 x254001_2] 25 (0, 0)) (by (with_reducible repeat (first | refine blk_drewN ?_ _ | refine blk_drew ?_ | refine blk_alloc ?_ _)); exact BK253.out)) : gb260 ≠ gb253))
                          clear BK252
                          clear BK253
                          clear HB
                          have BK252 := n0_
                          have BK253 := n1_
                          have HB := n2_
                          have BK260 := n3_
                          have GW260 := n4_
                          have GE260 := n5_
                          have NB252_260 := n6_
                          have NB260_252 := n7_
                          have NB253_260 := n8_
                          have NB260_253 := n9_
                          clear n0_ n1_ n2_ n3_ n4_ n5_ n6_ n7_ n8_ n9_
                          clear hb hbox hg
                          refine hK.out _ _ ⟨(blk_cell BK252.out 0).trans rfl, (blk_cell BK252.out 1).trans rfl, (blk_cell BK252.out 2).trans rfl, (blk_cell BK252.out 3).trans rfl, (blk_cell BK252.out 4).trans rfl, (blk_cell BK252.out 5).trans rfl, (blk_cell BK252.out 6).trans rfl, (blk_cell BK252.out 7).trans rfl, (blk_cell BK253.out 0).trans rfl, (blk_cell BK253.out 1).trans rfl, ((HB.out.cell (World.block_lt_of_cell? w _ hw256_0)).trans hw256_0)⟩ (fun hHeld => ?_)
                          clear hK K
                          refine norm_ (a' := ?_) ?_ ?_
                          rotate_left
                          · show Act.put _ (some 11) _ = _
                            simp only [Act.put, List.setIfInBounds_toArray, List.set_cons_zero, List.set_cons_succ, i64_w, i32_w]
                            rfl
                          exact norm_ (by simp only [putAll, Act.put, List.setIfInBounds_toArray, List.set_cons_zero, List.set_cons_succ]) (hCont (gb260) _ ⟨hHeld, (by (with_reducible repeat (first | refine blk_drewN ?_ _ | refine blk_drew ?_ | refine blk_alloc ?_ _)); exact BK252.out), (by (with_reducible repeat (first | refine blk_drewN ?_ _ | refine blk_drew ?_ | refine blk_alloc ?_ _)); exact BK253.out), (by (with_reducible repeat (first | refine blk_drewN ?_ _ | refine blk_drew ?_ | refine blk_alloc ?_ _)); exact BK260.out), GW260.out, GE260.out, NB252_260.out, NB260_252.out, NB253_260.out, NB260_253.out, (by repeat (first | (with_reducible first | exact HB.out | apply below_alloc | apply pw_below_drewN | apply below_drew1 | refine below_set ?_ GE252.out | refine below_set ?_ GE253.out | refine below_set ?_ GE260.out) | exact HB.out))⟩)
                        · skip
                          refine box_step ?hg (N := 11) ?hd (cs := #[.int .i64 0, .int .i64 0]) (t := 25) ?hr ?_; (case hd => rfl); (case hg => rfl); (case hr => first | (go_simp; done) | (go_simp; rfl))
                          intro gb260 hg w26 hbox hb
                          have n0_ := Aside0.mk (blk_below (g := gb252) (o := .cells #[.string a0_0, .int .i64 a0_1, .int .i64 a0_2, .int .i64 a0_3, .int .i64 a0_4, .int .i64 a0_5, .int .i64 a0_6, .int .i64 a0_7] 23 (0, 0)) (by (with_reducible repeat (first | refine blk_drewN ?_ _ | refine blk_drew ?_ | refine blk_alloc ?_ _)); exact BK252.out) hb)
                          have n1_ := Aside0.mk (blk_below (g := gb253) (o := .cells #[.int .i64 x254000_2, .int .i64 x254001_2] 25 (0, 0)) (by (with_reducible repeat (first | refine blk_drewN ?_ _ | refine blk_drew ?_ | refine blk_alloc ?_ _)); exact BK253.out) hb)
                          have n2_ := Aside0.mk (below_step (by repeat (first | (with_reducible first | exact HB.out | apply below_alloc | apply pw_below_drewN | apply below_drew1 | refine below_set ?_ GE252.out | refine below_set ?_ GE253.out) | exact HB.out)) hb)
                          have n3_ := Aside0.mk (hbox)
                          have n4_ := Aside0.mk ((by rw [hg]; exact (below_size (by repeat (first | (with_reducible first | exact HB.out | apply below_alloc | apply pw_below_drewN | apply below_drew1 | refine below_set ?_ GE252.out | refine below_set ?_ GE253.out) | exact HB.out))) : w.heap.size ≤ gb260))
                          have n5_ := Aside0.mk ((by rw [hg]; exact (below_size (by repeat (first | (with_reducible first | exact HB.out | apply below_alloc | apply pw_below_drewN | apply below_drew1 | refine below_set ?_ GE252.out | refine below_set ?_ GE253.out) | exact HB.out))) : w.heap.size ≤ gb260))
                          have n6_ := Aside0.mk ((by rw [hg]; exact Nat.ne_of_lt (blk_lt (g := gb252) (o := .cells #[.string a0_0, .int .i64 a0_1, .int .i64 a0_2, .int .i64 a0_3, .int .i64 a0_4, .int .i64 a0_5, .int .i64 a0_6, .int .i64 a0_7] 23 (0, 0)) (by (with_reducible repeat (first | refine blk_drewN ?_ _ | refine blk_drew ?_ | refine blk_alloc ?_ _)); exact BK252.out)) : gb252 ≠ gb260))
                          have n7_ := Aside0.mk ((by rw [hg]; exact Nat.ne_of_gt (blk_lt (g := gb252) (o := .cells #[.string a0_0, .int .i64 a0_1, .int .i64 a0_2, .int .i64 a0_3, .int .i64 a0_4, .int .i64 a0_5, .int .i64 a0_6, .int .i64 a0_7] 23 (0, 0)) (by (with_reducible repeat (first | refine blk_drewN ?_ _ | refine blk_drew ?_ | refine blk_alloc ?_ _)); exact BK252.out)) : gb260 ≠ gb252))
                          have n8_ := Aside0.mk ((by rw [hg]; exact Nat.ne_of_lt (blk_lt (g := gb253) (o := .cells #[.int .i64 x254000_2, .int .i64 x254001_2] 25 (0, 0)) (by (with_reducible repeat (first | refine blk_drewN ?_ _ | refine blk_drew ?_ | refine blk_alloc ?_ _)); exact BK253.out)) : gb253 ≠ gb260))
                          have n9_ := Aside0.mk ((by rw [hg]; exact Nat.ne_of_gt (blk_lt (g := gb253) (o := .cells #[.int .i64 x254000_2, .int .i64 x254001_2] 25 (0, 0)) (by (with_reducible repeat (first | refine blk_drewN ?_ _ | refine blk_drew ?_ | refine blk_alloc ?_ _)); exact BK253.out)) : gb260 ≠ gb253))
                          clear BK252
                          clear BK253
                          clear HB
                          have BK252 := n0_
                          have BK253 := n1_
                          have HB := n2_
                          have BK260 := n3_
                          have GW260 := n4_
                          have GE260 := n5_
                          have NB252_260 := n6_
                          have NB260_252 := n7_
                          have NB253_260 := n8_
                          have NB260_253 := n9_
                          clear n0_ n1_ n2_ n3_ n4_ n5_ n6_ n7_ n8_ n9_
                          clear hb hbox hg
                          refine hK.out _ _ ⟨(blk_cell BK252.out 0).trans rfl, (blk_cell BK252.out 1).trans rfl, (blk_cell BK252.out 2).trans rfl, (blk_cell BK252.out 3).trans rfl, (blk_cell BK252.out 4).trans rfl, (blk_cell BK252.out 5).trans rfl, (blk_cell BK252.out 6).trans rfl, (blk_cell BK252.out 7).trans rfl, (blk_cell BK253.out 0).trans rfl, (blk_cell BK253.out 1).trans rfl, ((HB.out.cell (World.block_lt_of_cell? w _ hw256_0)).trans hw256_0)⟩ (fun hHeld => ?_)
                          clear hK K
                          refine norm_ (a' := ?_) ?_ ?_
                          rotate_left
                          · show Act.put _ (some 11) _ = _
                            simp only [Act.put, List.setIfInBounds_toArray, List.set_cons_zero, List.set_cons_succ, i64_w, i32_w]
                            rfl
                          refine one_ (i := 6) (N := some 41) #[true, true, true, true, true, true, true, false, false, false, true, false, false] rfl rfl (one_of HT_.out (by kernel_rfl)) (by decide) (fun K hK => ?_)
                          refine goes_ Tryd.func10 (by kernel_rfl) rfl #[.agg #[.string a0_0, .int .i64 a0_1, .int .i64 a0_2, .int .i64 a0_3, .int .i64 a0_4, .int .i64 a0_5, .int .i64 a0_6, .int .i64 a0_7], .agg #[.int .i64 x254000_2, .int .i64 x254001_2], .int .i64 (rd l2 x10_2)] (by rfl) rfl rfl (by (try simp only [List.map_toArray, List.map_cons, List.map_nil]); first | done | rfl | (simp only [List.length_drop, List.length_take]; rfl)) ?_
                          with_reducible refine (ramp_Next.calls a0_0 a0_1 a0_2 a0_3 a0_4 a0_5 a0_6 a0_7 x254000_2 x254001_2 (rd l2 x10_2) t257 t258 t259 _ (hG.below (by repeat (first | (with_reducible first | exact HB.out | apply below_alloc | apply pw_below_drewN | apply below_drew1) | exact HB.out))) A20.out).mono ?_
                          rintro e w27 ⟨rfl, hb⟩
                          refine ⟨_, rfl, ?_⟩
                          have n0_ := Aside0.mk (blk_below (g := gb252) (o := .cells #[.string a0_0, .int .i64 a0_1, .int .i64 a0_2, .int .i64 a0_3, .int .i64 a0_4, .int .i64 a0_5, .int .i64 a0_6, .int .i64 a0_7] 23 (0, 0)) (by (with_reducible repeat (first | refine blk_drewN ?_ _ | refine blk_drew ?_ | refine blk_alloc ?_ _)); exact BK252.out) hb)
                          have n1_ := Aside0.mk (blk_below (g := gb253) (o := .cells #[.int .i64 x254000_2, .int .i64 x254001_2] 25 (0, 0)) (by (with_reducible repeat (first | refine blk_drewN ?_ _ | refine blk_drew ?_ | refine blk_alloc ?_ _)); exact BK253.out) hb)
                          have n2_ := Aside0.mk (blk_below (g := gb260) (o := .cells #[.int .i64 0, .int .i64 0] 25 (0, 0)) (by (with_reducible repeat (first | refine blk_drewN ?_ _ | refine blk_drew ?_ | refine blk_alloc ?_ _)); exact BK260.out) hb)
                          have n3_ := Aside0.mk (below_step (by repeat (first | (with_reducible first | exact HB.out | apply below_alloc | apply pw_below_drewN | apply below_drew1 | refine below_set ?_ GE252.out | refine below_set ?_ GE253.out | refine below_set ?_ GE260.out) | exact HB.out)) hb)
                          clear BK252
                          clear BK253
                          clear BK260
                          clear HB
                          have BK252 := n0_
                          have BK253 := n1_
                          have BK260 := n2_
                          have HB := n3_
                          clear n0_ n1_ n2_ n3_
                          (try clear hb)
                          (try clear hb2)
                          (try clear hk)
                          (try clear hi)
                          refine hK.out _ _ ⟨(blk_cell BK252.out 0).trans rfl, (blk_cell BK252.out 1).trans rfl, (blk_cell BK252.out 2).trans rfl, (blk_cell BK252.out 3).trans rfl, (blk_cell BK252.out 4).trans rfl, (blk_cell BK252.out 5).trans rfl, (blk_cell BK252.out 6).trans rfl, (blk_cell BK252.out 7).trans rfl, (blk_cell BK253.out 0).trans rfl, (blk_cell BK253.out 1).trans rfl, ((HB.out.cell (World.block_lt_of_cell? w _ hw256_0)).trans hw256_0)⟩ (fun hHeld => ?_)
                          clear hK K
                          refine norm_ (a' := ?_) ?_ ?_
                          rotate_left
                          · show Act.put _ (some 41) _ = _
                            simp only [Act.put, List.setIfInBounds_toArray, List.set_cons_zero, List.set_cons_succ, i64_w, i32_w]
                            rfl
                          refine pure_ (i := 7) (N := some 34) (v := ?_) (a' := ?_) #[true, true, true, true, true, true, true, true, false, false, true, false, false] rfl rfl (any_of HT_.out (by kernel_rfl)) (fun _ _ _ h => h) (Or.inl ⟨by rfl, ?_⟩) ?_ ?_
                          rotate_left
                          · intro w'
                            go_simp
                            with_reducible rfl
                          rotate_left
                          · simp only [Act.put, List.setIfInBounds_toArray, List.set_cons_zero, List.set_cons_succ, i64_w, i32_w]
                            rfl
                          refine pure_ (i := 8) (N := some 42) (v := ?_) (a' := ?_) #[true, true, true, true, true, true, true, true, true, false, true, false, false] rfl rfl (any_of HT_.out (by kernel_rfl)) (fun _ _ _ h => h) (Or.inl ⟨by rfl, ?_⟩) ?_ ?_
                          rotate_left
                          · intro w'
                            go_simp
                            with_reducible rfl
                          rotate_left
                          · simp only [Act.put, List.setIfInBounds_toArray, List.set_cons_zero, List.set_cons_succ, i64_w, i32_w]
                            rfl
                          refine pure_ (i := 9) (N := some 43) (v := ?_) (a' := ?_) #[true, true, true, true, true, true, true, true, true, true, true, false, false] rfl rfl (any_of HT_.out (by kernel_rfl)) (fun _ _ _ h => h) (Or.inl ⟨by rfl, ?_⟩) ?_ ?_
                          rotate_left
                          · intro w'
                            go_simp
                            with_reducible rfl
                          rotate_left
                          · simp only [Act.put, List.setIfInBounds_toArray, List.set_cons_zero, List.set_cons_succ, i64_w, i32_w]
                            rfl
                          exact norm_ (by simp only [putAll, Act.put, List.setIfInBounds_toArray, List.set_cons_zero, List.set_cons_succ]) (hCont (gb260) _ ⟨hHeld, (by (with_reducible repeat (first | refine blk_drewN ?_ _ | refine blk_drew ?_ | refine blk_alloc ?_ _)); exact BK252.out), (by (with_reducible repeat (first | refine blk_drewN ?_ _ | refine blk_drew ?_ | refine blk_alloc ?_ _)); exact BK253.out), (by (with_reducible repeat (first | refine blk_drewN ?_ _ | refine blk_drew ?_ | refine blk_alloc ?_ _)); exact BK260.out), GW260.out, GE260.out, NB252_260.out, NB260_252.out, NB253_260.out, NB260_253.out, (by repeat (first | (with_reducible first | exact HB.out | apply below_alloc | apply pw_below_drewN | apply below_drew1 | refine below_set ?_ GE252.out | refine below_set ?_ GE253.out | refine below_set ?_ GE260.out) | exact HB.out))⟩)
                      rintro gb260 w28 ⟨hS_, h0_, h1_, h2_, h3_, h4_, h5_, h6_, h7_, h8_, h9_⟩
                      have n0_ : Aside0 (w28.heap[gb252]? = some (.cells #[.string a0_0, .int .i64 a0_1, .int .i64 a0_2, .int .i64 a0_3, .int .i64 a0_4, .int .i64 a0_5, .int .i64 a0_6, .int .i64 a0_7] 23 (0, 0))) := ⟨h0_⟩
                      have n1_ : Aside0 (w28.heap[gb253]? = some (.cells #[.int .i64 x254000_2, .int .i64 x254001_2] 25 (0, 0))) := ⟨h1_⟩
                      have n2_ : Aside0 (w28.heap[gb260]? = some (.cells #[.int .i64 0, .int .i64 0] 25 (0, 0))) := ⟨h2_⟩
                      have n3_ : Aside0 (w.heap.size ≤ gb260) := ⟨h3_⟩
                      have n4_ : Aside0 (w.heap.size ≤ gb260) := ⟨h4_⟩
                      have n5_ : Aside0 (gb252 ≠ gb260) := ⟨h5_⟩
                      have n6_ : Aside0 (gb260 ≠ gb252) := ⟨h6_⟩
                      have n7_ : Aside0 (gb253 ≠ gb260) := ⟨h7_⟩
                      have n8_ : Aside0 (gb260 ≠ gb253) := ⟨h8_⟩
                      have n9_ : Aside0 (Below w.heap.size w w28) := ⟨h9_⟩
                      clear BK252
                      clear BK253
                      clear HB
                      clear h0_ h1_ h2_ h3_ h4_ h5_ h6_ h7_ h8_ h9_
                      have BK252 := n0_
                      have BK253 := n1_
                      have BK260 := n2_
                      have GW260 := n3_
                      have GE260 := n4_
                      have NB252_260 := n5_
                      have NB260_252 := n6_
                      have NB253_260 := n7_
                      have NB260_253 := n8_
                      have HB := n9_
                      clear n0_ n1_ n2_ n3_ n4_ n5_ n6_ n7_ n8_ n9_
                      have hHeld : w28.cell? ⟨gb252, 0, none⟩ = some (.string a0_0) ∧ w28.cell? ⟨gb252, 1, none⟩ = some (.int .i64 a0_1) ∧ w28.cell? ⟨gb252, 2, none⟩ = some (.int .i64 a0_2) ∧ w28.cell? ⟨gb252, 3, none⟩ = some (.int .i64 a0_3) ∧ w28.cell? ⟨gb252, 4, none⟩ = some (.int .i64 a0_4) ∧ w28.cell? ⟨gb252, 5, none⟩ = some (.int .i64 a0_5) ∧ w28.cell? ⟨gb252, 6, none⟩ = some (.int .i64 a0_6) ∧ w28.cell? ⟨gb252, 7, none⟩ = some (.int .i64 a0_7) ∧ w28.cell? ⟨gb253, 0, none⟩ = some (.int .i64 x254000_2) ∧ w28.cell? ⟨gb253, 1, none⟩ = some (.int .i64 x254001_2) ∧ w28.cell? (ad256.add (x10_2).toNat) = some (.int .i64 (rd l2 x10_2)) := hS_
                      refine norm_ (a' := ?_) ?_ ?_
                      rotate_left
                      · simp only [putAll, Act.put, List.setIfInBounds_toArray, List.set_cons_zero, List.set_cons_succ]
                        rfl
                      refine one_ (i := 11) (N := none) #[true, true, true, true, true, true, true, true, true, true, true, true, false] rfl rfl (one_of HT_.out (by kernel_rfl)) (by decide) (fun K hK => ?_)
                      have hs29 : w28.cell? ⟨gb260, 0, none⟩ = some (.int .i64 0) := (blk_cell BK260.out 0).trans rfl
                      have hfs29 := blk_frozen BK260.out 0
                      have hns29_0 := NB252_260.out
                      have hns29_1 := NB253_260.out
                      have hms29_0 := NB260_252.out
                      have hms29_1 := NB260_253.out
                      have hs30 : w28.cell? ⟨gb260, 1, none⟩ = some (.int .i64 0) := (blk_cell BK260.out 1).trans rfl
                      have hfs30 := blk_frozen BK260.out 1
                      have hns30_0 := NB252_260.out
                      have hns30_1 := NB253_260.out
                      have hms30_0 := NB260_252.out
                      have hms30_1 := NB260_253.out
                      refine skip_ (w1 := ?_) (by rfl) rfl ?_ ?_
                      rotate_left
                      · go_simp
                        rfl
                      refine hK.out _ _ ⟨((cell_far (p := ⟨gb260, _, none⟩) NB252_260.out _).trans (((cell_far (p := ⟨gb260, _, none⟩) NB252_260.out _).trans (hHeld.1)))), ((cell_far (p := ⟨gb260, _, none⟩) NB252_260.out _).trans (((cell_far (p := ⟨gb260, _, none⟩) NB252_260.out _).trans (hHeld.2.1)))), ((cell_far (p := ⟨gb260, _, none⟩) NB252_260.out _).trans (((cell_far (p := ⟨gb260, _, none⟩) NB252_260.out _).trans (hHeld.2.2.1)))), ((cell_far (p := ⟨gb260, _, none⟩) NB252_260.out _).trans (((cell_far (p := ⟨gb260, _, none⟩) NB252_260.out _).trans (hHeld.2.2.2.1)))), ((cell_far (p := ⟨gb260, _, none⟩) NB252_260.out _).trans (((cell_far (p := ⟨gb260, _, none⟩) NB252_260.out _).trans (hHeld.2.2.2.2.1)))), ((cell_far (p := ⟨gb260, _, none⟩) NB252_260.out _).trans (((cell_far (p := ⟨gb260, _, none⟩) NB252_260.out _).trans (hHeld.2.2.2.2.2.1)))), ((cell_far (p := ⟨gb260, _, none⟩) NB252_260.out _).trans (((cell_far (p := ⟨gb260, _, none⟩) NB252_260.out _).trans (hHeld.2.2.2.2.2.2.1)))), ((cell_far (p := ⟨gb260, _, none⟩) NB252_260.out _).trans (((cell_far (p := ⟨gb260, _, none⟩) NB252_260.out _).trans (hHeld.2.2.2.2.2.2.2.1)))), ((cell_far (p := ⟨gb260, _, none⟩) NB253_260.out _).trans (((cell_far (p := ⟨gb260, _, none⟩) NB253_260.out _).trans (hHeld.2.2.2.2.2.2.2.2.1)))), ((cell_far (p := ⟨gb260, _, none⟩) NB253_260.out _).trans (((cell_far (p := ⟨gb260, _, none⟩) NB253_260.out _).trans (hHeld.2.2.2.2.2.2.2.2.2.1)))), ((cell_far (p := ⟨gb260, _, none⟩) (by first | exact Nat.ne_of_lt (Nat.lt_of_lt_of_le (by have := World.block_lt_of_cell? _ _ hw256_0; first | rwa [add_block] at this | exact this) GW260.out) | (rw [add_block]; exact Nat.ne_of_lt (Nat.lt_of_lt_of_le (by have := World.block_lt_of_cell? _ _ hw256_0; first | rwa [add_block] at this | exact this) GW260.out)) | (show (Addr.add _ _).block ≠ _; rw [add_block]; exact Nat.ne_of_lt (Nat.lt_of_lt_of_le (by have := World.block_lt_of_cell? _ _ hw256_0; first | rwa [add_block] at this | exact this) GW260.out)) | (dsimp only; exact Nat.ne_of_lt (Nat.lt_of_lt_of_le (by have := World.block_lt_of_cell? _ _ hw256_0; first | rwa [add_block] at this | exact this) GW260.out))) _).trans (((cell_far (p := ⟨gb260, _, none⟩) (by first | exact Nat.ne_of_lt (Nat.lt_of_lt_of_le (by have := World.block_lt_of_cell? _ _ hw256_0; first | rwa [add_block] at this | exact this) GW260.out) | (rw [add_block]; exact Nat.ne_of_lt (Nat.lt_of_lt_of_le (by have := World.block_lt_of_cell? _ _ hw256_0; first | rwa [add_block] at this | exact this) GW260.out)) | (show (Addr.add _ _).block ≠ _; rw [add_block]; exact Nat.ne_of_lt (Nat.lt_of_lt_of_le (by have := World.block_lt_of_cell? _ _ hw256_0; first | rwa [add_block] at this | exact this) GW260.out)) | (dsimp only; exact Nat.ne_of_lt (Nat.lt_of_lt_of_le (by have := World.block_lt_of_cell? _ _ hw256_0; first | rwa [add_block] at this | exact this) GW260.out))) _).trans (hHeld.2.2.2.2.2.2.2.2.2.2))))⟩ (fun hHeld => ?_)
                      clear hK K
                      refine pure_ (i := 12) (N := some 12) (v := ?_) (a' := ?_) #[true, true, true, true, true, true, true, true, true, true, true, true, true] rfl rfl (any_of HT_.out (by kernel_rfl)) (fun _ _ _ h => h) (Or.inl ⟨by rfl, ?_⟩) ?_ ?_
                      rotate_left
                      · intro w'
                        go_simp
                        with_reducible rfl
                      rotate_left
                      · simp only [Act.put, List.setIfInBounds_toArray, List.set_cons_zero, List.set_cons_succ, i64_w, i32_w]
                        rfl
                      refine done_ (done_of HT_.out (by kernel_rfl)) ?_
                      have hnb31 := NB260_252.out
                      have hnc31 := NB252_260.out
                      have hnb32 := NB260_253.out
                      have hnc32 := NB253_260.out
                      have hcz33_0 : w28.cell? ⟨gb260, 0, none⟩ = some (.int .i64 0) := (blk_cell BK260.out 0).trans rfl
                      have hcz33_1 : w28.cell? ⟨gb260, 1, none⟩ = some (.int .i64 0) := (blk_cell BK260.out 1).trans rfl
                      have hfz33_0 := blk_frozen BK260.out 0
                      have hfz33_1 := blk_frozen BK260.out 1
                      have hnb34 := NB253_252.out
                      have hnc34 := NB252_253.out
                      have hcz35_0 : w28.cell? ⟨gb253, 0, none⟩ = some (.int .i64 x254000_2) := (blk_cell BK253.out 0).trans rfl
                      have hcz35_1 : w28.cell? ⟨gb253, 1, none⟩ = some (.int .i64 x254001_2) := (blk_cell BK253.out 1).trans rfl
                      have hfz35_0 := blk_frozen BK253.out 0
                      have hfz35_1 := blk_frozen BK253.out 1
                      try go_wp2
                      go_roundg k2
                      case measure => have := HJ5.out; have := HK2.out; omega
                      case rel => exact ⟨((t258 == (ji24))), (0), (wrap64 (x10_2 + 1)), (t257), (t258), (by first | rfl | (simp; done) | (simp only [← hji24] <;> (first | rfl | simp)) | (simp [*]; done)), (by first | rfl | (simp; done) | (simp [*]; done)), (by first | rfl | (simp; done) | (simp [*]; done)), H', ⟨by have := HJ5.out; have := HK2.out; omega⟩, ⟨by (with_reducible repeat (first | refine blk_drewN ?_ _ | refine blk_drew ?_ | refine blk_alloc ?_ _)); refine blk_far ?_ NB252_253.out _; (with_reducible repeat (first | refine blk_drewN ?_ _ | refine blk_drew ?_ | refine blk_alloc ?_ _)); refine blk_far ?_ NB252_253.out _; (with_reducible repeat (first | refine blk_drewN ?_ _ | refine blk_drew ?_ | refine blk_alloc ?_ _)); refine blk_far ?_ NB252_260.out _; (with_reducible repeat (first | refine blk_drewN ?_ _ | refine blk_drew ?_ | refine blk_alloc ?_ _)); refine blk_far ?_ NB252_260.out _; (with_reducible repeat (first | refine blk_drewN ?_ _ | refine blk_drew ?_ | refine blk_alloc ?_ _)); exact BK252.out⟩, ⟨by (with_reducible repeat (first | refine blk_drewN ?_ _ | refine blk_drew ?_ | refine blk_alloc ?_ _)); refine blk_put (cs := #[.int .i64 t257, .int .i64 x254001_2]) ?_ 1 _ rfl; (with_reducible repeat (first | refine blk_drewN ?_ _ | refine blk_drew ?_ | refine blk_alloc ?_ _)); refine blk_put (cs := #[.int .i64 x254000_2, .int .i64 x254001_2]) ?_ 0 _ rfl; (with_reducible repeat (first | refine blk_drewN ?_ _ | refine blk_drew ?_ | refine blk_alloc ?_ _)); refine blk_far ?_ NB253_260.out _; (with_reducible repeat (first | refine blk_drewN ?_ _ | refine blk_drew ?_ | refine blk_alloc ?_ _)); refine blk_far ?_ NB253_260.out _; (with_reducible repeat (first | refine blk_drewN ?_ _ | refine blk_drew ?_ | refine blk_alloc ?_ _)); exact BK253.out⟩, ⟨by repeat (first | (with_reducible first | exact HB.out | apply below_alloc | apply pw_below_drewN | apply below_drew1 | refine below_set ?_ GE252.out | refine below_set ?_ GE253.out | refine below_set ?_ GE260.out) | exact HB.out)⟩⟩
                    · replace c23 := Bool.eq_false_iff.mpr c23
                      subst c23
                      have H1 : (chargeparklaw24_RampSince.l0 k2 l2 false 0 (wrap64 (x10_2 + 1)) a0_0 a0_1 a0_2 a0_3 a0_4 a0_5 a0_6 a0_7 t257 t258) = some r := by rw [if_neg (show ¬ (false = true) by decide)] at H; exact H
                      clear H
                      have H := H1
                      clear H1
                      have H' := Aside0.mk H
                      clear H
                      try go_wp2
                      have n0_ := Aside0.mk (blk_drew BK252.out)
                      have n1_ := Aside0.mk (blk_drew BK253.out)
                      have n2_ := Aside0.mk (below_drew1 HB.out)
                      clear BK252
                      clear BK253
                      clear HB
                      have BK252 := n0_
                      have BK253 := n1_
                      have HB := n2_
                      clear n0_ n1_ n2_
                      have p256 : 0 ≤ (x10_2 : Int) := of_decide_eq_true (by first | (with_reducible assumption) | assumption)
                      have q256 : x10_2 < (l2.length : Int) := of_decide_eq_true (by first | (with_reducible assumption) | assumption)
                      obtain ⟨ad256, e256, hx256_0⟩ := Kd.at_int HR2.out x10_2 p256 q256
                      have hw256_0 := hx256_0
                      cases e256
                      replace hx256_0 := (HB.out.cell (World.block_lt_of_cell? w _ hx256_0)).trans hx256_0
                      replace p256 := eq_true p256
                      replace q256 := eq_true q256
                      refine start_ (n := 13) (S := fun w' => w'.cell? ⟨gb252, 0, none⟩ = some (.string a0_0) ∧ w'.cell? ⟨gb252, 1, none⟩ = some (.int .i64 a0_1) ∧ w'.cell? ⟨gb252, 2, none⟩ = some (.int .i64 a0_2) ∧ w'.cell? ⟨gb252, 3, none⟩ = some (.int .i64 a0_3) ∧ w'.cell? ⟨gb252, 4, none⟩ = some (.int .i64 a0_4) ∧ w'.cell? ⟨gb252, 5, none⟩ = some (.int .i64 a0_5) ∧ w'.cell? ⟨gb252, 6, none⟩ = some (.int .i64 a0_6) ∧ w'.cell? ⟨gb252, 7, none⟩ = some (.int .i64 a0_7) ∧ w'.cell? ⟨gb253, 0, none⟩ = some (.int .i64 x254000_2) ∧ w'.cell? ⟨gb253, 1, none⟩ = some (.int .i64 x254001_2) ∧ w'.cell? (ad256.add (x10_2).toNat) = some (.int .i64 (rd l2 x10_2))) (ds := []) #[false, false, false, false, false, false, false, false, false, false, false, false, false] (by kernel_rfl) rfl rfl ⟨(blk_cell BK252.out 0).trans rfl, (blk_cell BK252.out 1).trans rfl, (blk_cell BK252.out 2).trans rfl, (blk_cell BK252.out 3).trans rfl, (blk_cell BK252.out 4).trans rfl, (blk_cell BK252.out 5).trans rfl, (blk_cell BK252.out 6).trans rfl, (blk_cell BK252.out 7).trans rfl, (blk_cell BK253.out 0).trans rfl, (blk_cell BK253.out 1).trans rfl, ((HB.out.cell (World.block_lt_of_cell? w _ hw256_0)).trans hw256_0)⟩ (fun hHeld => ?_); refine with_tabW chargeparklaw24_RampSince.tab9 chargeparklaw24_RampSince.bits9 (fun HT_ HW_ => ?_)
                      generalize wr.drew = w36 at BK252 BK253 HB hx256_0 hHeld ⊢
                      refine pure_ (i := 2) (N := some 37) (v := ?_) (a' := ?_) #[false, false, true, false, false, false, false, false, false, false, false, false, false] rfl rfl (any_of HT_.out (by kernel_rfl)) (fun _ _ _ h => h) (Or.inl ⟨by rfl, ?_⟩) ?_ ?_
                      rotate_left
                      · intro w'
                        go_simp
                        with_reducible rfl
                      rotate_left
                      · simp only [Act.put, List.setIfInBounds_toArray, List.set_cons_zero, List.set_cons_succ, i64_w, i32_w]
                        rfl
                      refine pure_ (i := 3) (N := some 38) (v := ?_) (a' := ?_) #[false, false, true, true, false, false, false, false, false, false, false, false, false] rfl rfl (any_of HT_.out (by kernel_rfl)) (fun _ _ _ h => h) (Or.inl ⟨by rfl, ?_⟩) ?_ ?_
                      rotate_left
                      · intro w'
                        go_simp
                        with_reducible rfl
                      rotate_left
                      · simp only [Act.put, List.setIfInBounds_toArray, List.set_cons_zero, List.set_cons_succ, i64_w, i32_w]
                        rfl
                      refine pure_ (i := 4) (N := some 39) (v := ?_) (a' := ?_) #[false, false, true, true, true, false, false, false, false, false, false, false, false] rfl rfl (any_of HT_.out (by kernel_rfl)) (fun _ _ _ h => h) (Or.inl ⟨by rfl, ?_⟩) ?_ ?_
                      rotate_left
                      · intro w'
                        go_simp
                        with_reducible rfl
                      rotate_left
                      · simp only [Act.put, List.setIfInBounds_toArray, List.set_cons_zero, List.set_cons_succ, i64_w, i32_w]
                        rfl
                      refine take_ (i := 0) (N := some 35) (v := ?_) (a' := ?_) #[true, false, true, true, true, false, false, false, false, false, false, false, false] rfl rfl (take_ofW HT_.out HW_.out (by kernel_rfl)) (fun _ _ _ h => h) (Or.inl ⟨by rfl, ?_⟩) hHeld ?_ ?_
                      rotate_left
                      · rintro w' ⟨s0, s1, s2, s3, s4, s5, s6, s7, s8, s9, s10⟩
                        go_simp
                        with_reducible rfl
                      rotate_left
                      · simp only [Act.put, List.setIfInBounds_toArray, List.set_cons_zero, List.set_cons_succ, i64_w, i32_w]
                        rfl
                      refine take_ (i := 1) (N := some 36) (v := ?_) (a' := ?_) #[true, true, true, true, true, false, false, false, false, false, false, false, false] rfl rfl (take_ofW HT_.out HW_.out (by kernel_rfl)) (fun _ _ _ h => h) (Or.inl ⟨by rfl, ?_⟩) hHeld ?_ ?_
                      rotate_left
                      · rintro w' ⟨s0, s1, s2, s3, s4, s5, s6, s7, s8, s9, s10⟩
                        go_simp
                        with_reducible rfl
                      rotate_left
                      · simp only [Act.put, List.setIfInBounds_toArray, List.set_cons_zero, List.set_cons_succ, i64_w, i32_w]
                        rfl
                      refine take_ (i := 5) (N := some 40) (v := ?_) (a' := ?_) #[true, true, true, true, true, true, false, false, false, false, false, false, false] rfl rfl (take_ofW HT_.out HW_.out (by kernel_rfl)) (fun _ _ _ h => h) (Or.inl ⟨by rfl, ?_⟩) hHeld ?_ ?_
                      rotate_left
                      · rintro w' ⟨s0, s1, s2, s3, s4, s5, s6, s7, s8, s9, s10⟩
                        go_simp
                        with_reducible rfl
                      rotate_left
                      · simp only [Act.put, List.setIfInBounds_toArray, List.set_cons_zero, List.set_cons_succ, i64_w, i32_w]
                        rfl
                      refine join_ (σ := Nat) 2 #[true, true, true, true, true, true, true, true, true, true, true, false, false] (fun s_ => [(41, .tuple #[.agg #[.int .i64 t257, .int .i64 t258], .int .i64 t259]), (11, .pointer (some ⟨s_, 0, none⟩)), (34, .tuple #[.agg #[.int .i64 t257, .int .i64 t258], .int .i64 t259]), (42, .agg #[.int .i64 t257, .int .i64 t258]), (43, .int .i64 t259)]) (fun s_ w' => (w'.cell? ⟨gb252, 0, none⟩ = some (.string a0_0) ∧ w'.cell? ⟨gb252, 1, none⟩ = some (.int .i64 a0_1) ∧ w'.cell? ⟨gb252, 2, none⟩ = some (.int .i64 a0_2) ∧ w'.cell? ⟨gb252, 3, none⟩ = some (.int .i64 a0_3) ∧ w'.cell? ⟨gb252, 4, none⟩ = some (.int .i64 a0_4) ∧ w'.cell? ⟨gb252, 5, none⟩ = some (.int .i64 a0_5) ∧ w'.cell? ⟨gb252, 6, none⟩ = some (.int .i64 a0_6) ∧ w'.cell? ⟨gb252, 7, none⟩ = some (.int .i64 a0_7) ∧ w'.cell? ⟨gb253, 0, none⟩ = some (.int .i64 x254000_2) ∧ w'.cell? ⟨gb253, 1, none⟩ = some (.int .i64 x254001_2) ∧ w'.cell? (ad256.add (x10_2).toNat) = some (.int .i64 (rd l2 x10_2))) ∧ (w'.heap[gb252]? = some (.cells #[.string a0_0, .int .i64 a0_1, .int .i64 a0_2, .int .i64 a0_3, .int .i64 a0_4, .int .i64 a0_5, .int .i64 a0_6, .int .i64 a0_7] 23 (0, 0))) ∧ (w'.heap[gb253]? = some (.cells #[.int .i64 x254000_2, .int .i64 x254001_2] 25 (0, 0))) ∧ (w'.heap[s_]? = some (.cells #[.int .i64 0, .int .i64 0] 25 (0, 0))) ∧ (w.heap.size ≤ s_) ∧ (w.heap.size ≤ s_) ∧ (gb252 ≠ s_) ∧ (s_ ≠ gb252) ∧ (gb253 ≠ s_) ∧ (s_ ≠ gb253) ∧ (Below w.heap.size w w')) ?_ ?_
                      rotate_left
                      · intro hCont
                        refine two_ (i := 6) (j := 10) (Ni := some 41) (Nj := some 11) #[true, true, true, true, true, true, true, false, false, false, false, false, false] #[true, true, true, true, true, true, false, false, false, false, true, false, false] rfl rfl rfl rfl (two_of HT_.out (by kernel_rfl)) (by decide) (by decide) (fun K hK => ?_) (fun K hK => ?_)
                        · skip
                          refine goes_ Tryd.func10 (by kernel_rfl) rfl #[.agg #[.string a0_0, .int .i64 a0_1, .int .i64 a0_2, .int .i64 a0_3, .int .i64 a0_4, .int .i64 a0_5, .int .i64 a0_6, .int .i64 a0_7], .agg #[.int .i64 x254000_2, .int .i64 x254001_2], .int .i64 (rd l2 x10_2)] (by rfl) rfl rfl (by (try simp only [List.map_toArray, List.map_cons, List.map_nil]); first | done | rfl | (simp only [List.length_drop, List.length_take]; rfl)) ?_
                          with_reducible refine (ramp_Next.calls a0_0 a0_1 a0_2 a0_3 a0_4 a0_5 a0_6 a0_7 x254000_2 x254001_2 (rd l2 x10_2) t257 t258 t259 _ (hG.below (by repeat (first | (with_reducible first | exact HB.out | apply below_alloc | apply pw_below_drewN | apply below_drew1) | exact HB.out))) A20.out).mono ?_
                          rintro e w37 ⟨rfl, hb⟩
                          refine ⟨_, rfl, ?_⟩
                          have n0_ := Aside0.mk (blk_below (g := gb252) (o := .cells #[.string a0_0, .int .i64 a0_1, .int .i64 a0_2, .int .i64 a0_3, .int .i64 a0_4, .int .i64 a0_5, .int .i64 a0_6, .int .i64 a0_7] 23 (0, 0)) (by (with_reducible repeat (first | refine blk_drewN ?_ _ | refine blk_drew ?_ | refine blk_alloc ?_ _)); exact BK252.out) hb)
                          have n1_ := Aside0.mk (blk_below (g := gb253) (o := .cells #[.int .i64 x254000_2, .int .i64 x254001_2] 25 (0, 0)) (by (with_reducible repeat (first | refine blk_drewN ?_ _ | refine blk_drew ?_ | refine blk_alloc ?_ _)); exact BK253.out) hb)
                          have n2_ := Aside0.mk (below_step (by repeat (first | (with_reducible first | exact HB.out | apply below_alloc | apply pw_below_drewN | apply below_drew1 | refine below_set ?_ GE252.out | refine below_set ?_ GE253.out) | exact HB.out)) hb)
                          clear BK252
                          clear BK253
                          clear HB
                          have BK252 := n0_
                          have BK253 := n1_
                          have HB := n2_
                          clear n0_ n1_ n2_
                          (try clear hb)
                          (try clear hb2)
                          (try clear hk)
                          (try clear hi)
                          refine hK.out _ _ ⟨(blk_cell BK252.out 0).trans rfl, (blk_cell BK252.out 1).trans rfl, (blk_cell BK252.out 2).trans rfl, (blk_cell BK252.out 3).trans rfl, (blk_cell BK252.out 4).trans rfl, (blk_cell BK252.out 5).trans rfl, (blk_cell BK252.out 6).trans rfl, (blk_cell BK252.out 7).trans rfl, (blk_cell BK253.out 0).trans rfl, (blk_cell BK253.out 1).trans rfl, ((HB.out.cell (World.block_lt_of_cell? w _ hw256_0)).trans hw256_0)⟩ (fun hHeld => ?_)
                          clear hK K
                          refine norm_ (a' := ?_) ?_ ?_
                          rotate_left
                          · show Act.put _ (some 41) _ = _
                            simp only [Act.put, List.setIfInBounds_toArray, List.set_cons_zero, List.set_cons_succ, i64_w, i32_w]
                            rfl
                          refine pure_ (i := 7) (N := some 34) (v := ?_) (a' := ?_) #[true, true, true, true, true, true, true, true, false, false, false, false, false] rfl rfl (any_of HT_.out (by kernel_rfl)) (fun _ _ _ h => h) (Or.inl ⟨by rfl, ?_⟩) ?_ ?_
                          rotate_left
                          · intro w'
                            go_simp
                            with_reducible rfl
                          rotate_left
                          · simp only [Act.put, List.setIfInBounds_toArray, List.set_cons_zero, List.set_cons_succ, i64_w, i32_w]
                            rfl
                          refine pure_ (i := 8) (N := some 42) (v := ?_) (a' := ?_) #[true, true, true, true, true, true, true, true, true, false, false, false, false] rfl rfl (any_of HT_.out (by kernel_rfl)) (fun _ _ _ h => h) (Or.inl ⟨by rfl, ?_⟩) ?_ ?_
                          rotate_left
                          · intro w'
                            go_simp
                            with_reducible rfl
                          rotate_left
                          · simp only [Act.put, List.setIfInBounds_toArray, List.set_cons_zero, List.set_cons_succ, i64_w, i32_w]
                            rfl
                          refine pure_ (i := 9) (N := some 43) (v := ?_) (a' := ?_) #[true, true, true, true, true, true, true, true, true, true, false, false, false] rfl rfl (any_of HT_.out (by kernel_rfl)) (fun _ _ _ h => h) (Or.inl ⟨by rfl, ?_⟩) ?_ ?_
                          rotate_left
                          · intro w'
                            go_simp
                            with_reducible rfl
                          rotate_left
                          · simp only [Act.put, List.setIfInBounds_toArray, List.set_cons_zero, List.set_cons_succ, i64_w, i32_w]
                            rfl
                          refine one_ (i := 10) (N := some 11) #[true, true, true, true, true, true, true, true, true, true, true, false, false] rfl rfl (one_of HT_.out (by kernel_rfl)) (by decide) (fun K hK => ?_)
                          refine box_step ?hg (N := 11) ?hd (cs := #[.int .i64 0, .int .i64 0]) (t := 25) ?hr ?_; (case hd => rfl); (case hg => rfl); (case hr => first | (go_simp; done) | (go_simp; rfl))
                          intro gb260 hg w38 hbox hb
                          have n0_ := Aside0.mk (blk_below (g := gb252) (o := .cells #[.string a0_0, .int .i64 a0_1, .int .i64 a0_2, .int .i64 a0_3, .int .i64 a0_4, .int .i64 a0_5, .int .i64 a0_6, .int .i64 a0_7] 23 (0, 0)) (by (with_reducible repeat (first | refine blk_drewN ?_ _ | refine blk_drew ?_ | refine blk_alloc ?_ _)); exact BK252.out) hb)
                          have n1_ := Aside0.mk (blk_below (g := gb253) (o := .cells #[.int .i64 x254000_2, .int .i64 x254001_2] 25 (0, 0)) (by (with_reducible repeat (first | refine blk_drewN ?_ _ | refine blk_drew ?_ | refine blk_alloc ?_ _)); exact BK253.out) hb)
                          have n2_ := Aside0.mk (below_step (by repeat (first | (with_reducible first | exact HB.out | apply below_alloc | apply pw_below_drewN | apply below_drew1 | refine below_set ?_ GE252.out | refine below_set ?_ GE253.out) | exact HB.out)) hb)
                          have n3_ := Aside0.mk (hbox)
                          have n4_ := Aside0.mk ((by rw [hg]; exact (below_size (by repeat (first | (with_reducible first | exact HB.out | apply below_alloc | apply pw_below_drewN | apply below_drew1 | refine below_set ?_ GE252.out | refine below_set ?_ GE253.out) | exact HB.out))) : w.heap.size ≤ gb260))
                          have n5_ := Aside0.mk ((by rw [hg]; exact (below_size (by repeat (first | (with_reducible first | exact HB.out | apply below_alloc | apply pw_below_drewN | apply below_drew1 | refine below_set ?_ GE252.out | refine below_set ?_ GE253.out) | exact HB.out))) : w.heap.size ≤ gb260))
                          have n6_ := Aside0.mk ((by rw [hg]; exact Nat.ne_of_lt (blk_lt (g := gb252) (o := .cells #[.string a0_0, .int .i64 a0_1, .int .i64 a0_2, .int .i64 a0_3, .int .i64 a0_4, .int .i64 a0_5, .int .i64 a0_6, .int .i64 a0_7] 23 (0, 0)) (by (with_reducible repeat (first | refine blk_drewN ?_ _ | refine blk_drew ?_ | refine blk_alloc ?_ _)); exact BK252.out)) : gb252 ≠ gb260))
                          have n7_ := Aside0.mk ((by rw [hg]; exact Nat.ne_of_gt (blk_lt (g := gb252) (o := .cells #[.string a0_0, .int .i64 a0_1, .int .i64 a0_2, .int .i64 a0_3, .int .i64 a0_4, .int .i64 a0_5, .int .i64 a0_6, .int .i64 a0_7] 23 (0, 0)) (by (with_reducible repeat (first | refine blk_drewN ?_ _ | refine blk_drew ?_ | refine blk_alloc ?_ _)); exact BK252.out)) : gb260 ≠ gb252))
                          have n8_ := Aside0.mk ((by rw [hg]; exact Nat.ne_of_lt (blk_lt (g := gb253) (o := .cells #[.int .i64 x254000_2, .int .i64 x254001_2] 25 (0, 0)) (by (with_reducible repeat (first | refine blk_drewN ?_ _ | refine blk_drew ?_ | refine blk_alloc ?_ _)); exact BK253.out)) : gb253 ≠ gb260))
                          have n9_ := Aside0.mk ((by rw [hg]; exact Nat.ne_of_gt (blk_lt (g := gb253) (o := .cells #[.int .i64 x254000_2, .int .i64 x254001_2] 25 (0, 0)) (by (with_reducible repeat (first | refine blk_drewN ?_ _ | refine blk_drew ?_ | refine blk_alloc ?_ _)); exact BK253.out)) : gb260 ≠ gb253))
                          clear BK252
                          clear BK253
                          clear HB
                          have BK252 := n0_
                          have BK253 := n1_
                          have HB := n2_
                          have BK260 := n3_
                          have GW260 := n4_
                          have GE260 := n5_
                          have NB252_260 := n6_
                          have NB260_252 := n7_
                          have NB253_260 := n8_
                          have NB260_253 := n9_
                          clear n0_ n1_ n2_ n3_ n4_ n5_ n6_ n7_ n8_ n9_
                          clear hb hbox hg
                          refine hK.out _ _ ⟨(blk_cell BK252.out 0).trans rfl, (blk_cell BK252.out 1).trans rfl, (blk_cell BK252.out 2).trans rfl, (blk_cell BK252.out 3).trans rfl, (blk_cell BK252.out 4).trans rfl, (blk_cell BK252.out 5).trans rfl, (blk_cell BK252.out 6).trans rfl, (blk_cell BK252.out 7).trans rfl, (blk_cell BK253.out 0).trans rfl, (blk_cell BK253.out 1).trans rfl, ((HB.out.cell (World.block_lt_of_cell? w _ hw256_0)).trans hw256_0)⟩ (fun hHeld => ?_)
                          clear hK K
                          refine norm_ (a' := ?_) ?_ ?_
                          rotate_left
                          · show Act.put _ (some 11) _ = _
                            simp only [Act.put, List.setIfInBounds_toArray, List.set_cons_zero, List.set_cons_succ, i64_w, i32_w]
                            rfl
                          exact norm_ (by simp only [putAll, Act.put, List.setIfInBounds_toArray, List.set_cons_zero, List.set_cons_succ]) (hCont (gb260) _ ⟨hHeld, (by (with_reducible repeat (first | refine blk_drewN ?_ _ | refine blk_drew ?_ | refine blk_alloc ?_ _)); exact BK252.out), (by (with_reducible repeat (first | refine blk_drewN ?_ _ | refine blk_drew ?_ | refine blk_alloc ?_ _)); exact BK253.out), (by (with_reducible repeat (first | refine blk_drewN ?_ _ | refine blk_drew ?_ | refine blk_alloc ?_ _)); exact BK260.out), GW260.out, GE260.out, NB252_260.out, NB260_252.out, NB253_260.out, NB260_253.out, (by repeat (first | (with_reducible first | exact HB.out | apply below_alloc | apply pw_below_drewN | apply below_drew1 | refine below_set ?_ GE252.out | refine below_set ?_ GE253.out | refine below_set ?_ GE260.out) | exact HB.out))⟩)
                        · skip
                          refine box_step ?hg (N := 11) ?hd (cs := #[.int .i64 0, .int .i64 0]) (t := 25) ?hr ?_; (case hd => rfl); (case hg => rfl); (case hr => first | (go_simp; done) | (go_simp; rfl))
                          intro gb260 hg w37 hbox hb
                          have n0_ := Aside0.mk (blk_below (g := gb252) (o := .cells #[.string a0_0, .int .i64 a0_1, .int .i64 a0_2, .int .i64 a0_3, .int .i64 a0_4, .int .i64 a0_5, .int .i64 a0_6, .int .i64 a0_7] 23 (0, 0)) (by (with_reducible repeat (first | refine blk_drewN ?_ _ | refine blk_drew ?_ | refine blk_alloc ?_ _)); exact BK252.out) hb)
                          have n1_ := Aside0.mk (blk_below (g := gb253) (o := .cells #[.int .i64 x254000_2, .int .i64 x254001_2] 25 (0, 0)) (by (with_reducible repeat (first | refine blk_drewN ?_ _ | refine blk_drew ?_ | refine blk_alloc ?_ _)); exact BK253.out) hb)
                          have n2_ := Aside0.mk (below_step (by repeat (first | (with_reducible first | exact HB.out | apply below_alloc | apply pw_below_drewN | apply below_drew1 | refine below_set ?_ GE252.out | refine below_set ?_ GE253.out) | exact HB.out)) hb)
                          have n3_ := Aside0.mk (hbox)
                          have n4_ := Aside0.mk ((by rw [hg]; exact (below_size (by repeat (first | (with_reducible first | exact HB.out | apply below_alloc | apply pw_below_drewN | apply below_drew1 | refine below_set ?_ GE252.out | refine below_set ?_ GE253.out) | exact HB.out))) : w.heap.size ≤ gb260))
                          have n5_ := Aside0.mk ((by rw [hg]; exact (below_size (by repeat (first | (with_reducible first | exact HB.out | apply below_alloc | apply pw_below_drewN | apply below_drew1 | refine below_set ?_ GE252.out | refine below_set ?_ GE253.out) | exact HB.out))) : w.heap.size ≤ gb260))
                          have n6_ := Aside0.mk ((by rw [hg]; exact Nat.ne_of_lt (blk_lt (g := gb252) (o := .cells #[.string a0_0, .int .i64 a0_1, .int .i64 a0_2, .int .i64 a0_3, .int .i64 a0_4, .int .i64 a0_5, .int .i64 a0_6, .int .i64 a0_7] 23 (0, 0)) (by (with_reducible repeat (first | refine blk_drewN ?_ _ | refine blk_drew ?_ | refine blk_alloc ?_ _)); exact BK252.out)) : gb252 ≠ gb260))
                          have n7_ := Aside0.mk ((by rw [hg]; exact Nat.ne_of_gt (blk_lt (g := gb252) (o := .cells #[.string a0_0, .int .i64 a0_1, .int .i64 a0_2, .int .i64 a0_3, .int .i64 a0_4, .int .i64 a0_5, .int .i64 a0_6, .int .i64 a0_7] 23 (0, 0)) (by (with_reducible repeat (first | refine blk_drewN ?_ _ | refine blk_drew ?_ | refine blk_alloc ?_ _)); exact BK252.out)) : gb260 ≠ gb252))
                          have n8_ := Aside0.mk ((by rw [hg]; exact Nat.ne_of_lt (blk_lt (g := gb253) (o := .cells #[.int .i64 x254000_2, .int .i64 x254001_2] 25 (0, 0)) (by (with_reducible repeat (first | refine blk_drewN ?_ _ | refine blk_drew ?_ | refine blk_alloc ?_ _)); exact BK253.out)) : gb253 ≠ gb260))
                          have n9_ := Aside0.mk ((by rw [hg]; exact Nat.ne_of_gt (blk_lt (g := gb253) (o := .cells #[.int .i64 x254000_2, .int .i64 x254001_2] 25 (0, 0)) (by (with_reducible repeat (first | refine blk_drewN ?_ _ | refine blk_drew ?_ | refine blk_alloc ?_ _)); exact BK253.out)) : gb260 ≠ gb253))
                          clear BK252
                          clear BK253
                          clear HB
                          have BK252 := n0_
                          have BK253 := n1_
                          have HB := n2_
                          have BK260 := n3_
                          have GW260 := n4_
                          have GE260 := n5_
                          have NB252_260 := n6_
                          have NB260_252 := n7_
                          have NB253_260 := n8_
                          have NB260_253 := n9_
                          clear n0_ n1_ n2_ n3_ n4_ n5_ n6_ n7_ n8_ n9_
                          clear hb hbox hg
                          refine hK.out _ _ ⟨(blk_cell BK252.out 0).trans rfl, (blk_cell BK252.out 1).trans rfl, (blk_cell BK252.out 2).trans rfl, (blk_cell BK252.out 3).trans rfl, (blk_cell BK252.out 4).trans rfl, (blk_cell BK252.out 5).trans rfl, (blk_cell BK252.out 6).trans rfl, (blk_cell BK252.out 7).trans rfl, (blk_cell BK253.out 0).trans rfl, (blk_cell BK253.out 1).trans rfl, ((HB.out.cell (World.block_lt_of_cell? w _ hw256_0)).trans hw256_0)⟩ (fun hHeld => ?_)
                          clear hK K
                          refine norm_ (a' := ?_) ?_ ?_
                          rotate_left
                          · show Act.put _ (some 11) _ = _
                            simp only [Act.put, List.setIfInBounds_toArray, List.set_cons_zero, List.set_cons_succ, i64_w, i32_w]
                            rfl
                          refine one_ (i := 6) (N := some 41) #[true, true, true, true, true, true, true, false, false, false, true, false, false] rfl rfl (one_of HT_.out (by kernel_rfl)) (by decide) (fun K hK => ?_)
                          refine goes_ Tryd.func10 (by kernel_rfl) rfl #[.agg #[.string a0_0, .int .i64 a0_1, .int .i64 a0_2, .int .i64 a0_3, .int .i64 a0_4, .int .i64 a0_5, .int .i64 a0_6, .int .i64 a0_7], .agg #[.int .i64 x254000_2, .int .i64 x254001_2], .int .i64 (rd l2 x10_2)] (by rfl) rfl rfl (by (try simp only [List.map_toArray, List.map_cons, List.map_nil]); first | done | rfl | (simp only [List.length_drop, List.length_take]; rfl)) ?_
                          with_reducible refine (ramp_Next.calls a0_0 a0_1 a0_2 a0_3 a0_4 a0_5 a0_6 a0_7 x254000_2 x254001_2 (rd l2 x10_2) t257 t258 t259 _ (hG.below (by repeat (first | (with_reducible first | exact HB.out | apply below_alloc | apply pw_below_drewN | apply below_drew1) | exact HB.out))) A20.out).mono ?_
                          rintro e w38 ⟨rfl, hb⟩
                          refine ⟨_, rfl, ?_⟩
                          have n0_ := Aside0.mk (blk_below (g := gb252) (o := .cells #[.string a0_0, .int .i64 a0_1, .int .i64 a0_2, .int .i64 a0_3, .int .i64 a0_4, .int .i64 a0_5, .int .i64 a0_6, .int .i64 a0_7] 23 (0, 0)) (by (with_reducible repeat (first | refine blk_drewN ?_ _ | refine blk_drew ?_ | refine blk_alloc ?_ _)); exact BK252.out) hb)
                          have n1_ := Aside0.mk (blk_below (g := gb253) (o := .cells #[.int .i64 x254000_2, .int .i64 x254001_2] 25 (0, 0)) (by (with_reducible repeat (first | refine blk_drewN ?_ _ | refine blk_drew ?_ | refine blk_alloc ?_ _)); exact BK253.out) hb)
                          have n2_ := Aside0.mk (blk_below (g := gb260) (o := .cells #[.int .i64 0, .int .i64 0] 25 (0, 0)) (by (with_reducible repeat (first | refine blk_drewN ?_ _ | refine blk_drew ?_ | refine blk_alloc ?_ _)); exact BK260.out) hb)
                          have n3_ := Aside0.mk (below_step (by repeat (first | (with_reducible first | exact HB.out | apply below_alloc | apply pw_below_drewN | apply below_drew1 | refine below_set ?_ GE252.out | refine below_set ?_ GE253.out | refine below_set ?_ GE260.out) | exact HB.out)) hb)
                          clear BK252
                          clear BK253
                          clear BK260
                          clear HB
                          have BK252 := n0_
                          have BK253 := n1_
                          have BK260 := n2_
                          have HB := n3_
                          clear n0_ n1_ n2_ n3_
                          (try clear hb)
                          (try clear hb2)
                          (try clear hk)
                          (try clear hi)
                          refine hK.out _ _ ⟨(blk_cell BK252.out 0).trans rfl, (blk_cell BK252.out 1).trans rfl, (blk_cell BK252.out 2).trans rfl, (blk_cell BK252.out 3).trans rfl, (blk_cell BK252.out 4).trans rfl, (blk_cell BK252.out 5).trans rfl, (blk_cell BK252.out 6).trans rfl, (blk_cell BK252.out 7).trans rfl, (blk_cell BK253.out 0).trans rfl, (blk_cell BK253.out 1).trans rfl, ((HB.out.cell (World.block_lt_of_cell? w _ hw256_0)).trans hw256_0)⟩ (fun hHeld => ?_)
                          clear hK K
                          refine norm_ (a' := ?_) ?_ ?_
                          rotate_left
                          · show Act.put _ (some 41) _ = _
                            simp only [Act.put, List.setIfInBounds_toArray, List.set_cons_zero, List.set_cons_succ, i64_w, i32_w]
                            rfl
                          refine pure_ (i := 7) (N := some 34) (v := ?_) (a' := ?_) #[true, true, true, true, true, true, true, true, false, false, true, false, false] rfl rfl (any_of HT_.out (by kernel_rfl)) (fun _ _ _ h => h) (Or.inl ⟨by rfl, ?_⟩) ?_ ?_
                          rotate_left
                          · intro w'
                            go_simp
                            with_reducible rfl
                          rotate_left
                          · simp only [Act.put, List.setIfInBounds_toArray, List.set_cons_zero, List.set_cons_succ, i64_w, i32_w]
                            rfl
                          refine pure_ (i := 8) (N := some 42) (v := ?_) (a' := ?_) #[true, true, true, true, true, true, true, true, true, false, true, false, false] rfl rfl (any_of HT_.out (by kernel_rfl)) (fun _ _ _ h => h) (Or.inl ⟨by rfl, ?_⟩) ?_ ?_
                          rotate_left
                          · intro w'
                            go_simp
                            with_reducible rfl
                          rotate_left
                          · simp only [Act.put, List.setIfInBounds_toArray, List.set_cons_zero, List.set_cons_succ, i64_w, i32_w]
                            rfl
                          refine pure_ (i := 9) (N := some 43) (v := ?_) (a' := ?_) #[true, true, true, true, true, true, true, true, true, true, true, false, false] rfl rfl (any_of HT_.out (by kernel_rfl)) (fun _ _ _ h => h) (Or.inl ⟨by rfl, ?_⟩) ?_ ?_
                          rotate_left
                          · intro w'
                            go_simp
                            with_reducible rfl
                          rotate_left
                          · simp only [Act.put, List.setIfInBounds_toArray, List.set_cons_zero, List.set_cons_succ, i64_w, i32_w]
                            rfl
                          exact norm_ (by simp only [putAll, Act.put, List.setIfInBounds_toArray, List.set_cons_zero, List.set_cons_succ]) (hCont (gb260) _ ⟨hHeld, (by (with_reducible repeat (first | refine blk_drewN ?_ _ | refine blk_drew ?_ | refine blk_alloc ?_ _)); exact BK252.out), (by (with_reducible repeat (first | refine blk_drewN ?_ _ | refine blk_drew ?_ | refine blk_alloc ?_ _)); exact BK253.out), (by (with_reducible repeat (first | refine blk_drewN ?_ _ | refine blk_drew ?_ | refine blk_alloc ?_ _)); exact BK260.out), GW260.out, GE260.out, NB252_260.out, NB260_252.out, NB253_260.out, NB260_253.out, (by repeat (first | (with_reducible first | exact HB.out | apply below_alloc | apply pw_below_drewN | apply below_drew1 | refine below_set ?_ GE252.out | refine below_set ?_ GE253.out | refine below_set ?_ GE260.out) | exact HB.out))⟩)
                      rintro gb260 w39 ⟨hS_, h0_, h1_, h2_, h3_, h4_, h5_, h6_, h7_, h8_, h9_⟩
                      have n0_ : Aside0 (w39.heap[gb252]? = some (.cells #[.string a0_0, .int .i64 a0_1, .int .i64 a0_2, .int .i64 a0_3, .int .i64 a0_4, .int .i64 a0_5, .int .i64 a0_6, .int .i64 a0_7] 23 (0, 0))) := ⟨h0_⟩
                      have n1_ : Aside0 (w39.heap[gb253]? = some (.cells #[.int .i64 x254000_2, .int .i64 x254001_2] 25 (0, 0))) := ⟨h1_⟩
                      have n2_ : Aside0 (w39.heap[gb260]? = some (.cells #[.int .i64 0, .int .i64 0] 25 (0, 0))) := ⟨h2_⟩
                      have n3_ : Aside0 (w.heap.size ≤ gb260) := ⟨h3_⟩
                      have n4_ : Aside0 (w.heap.size ≤ gb260) := ⟨h4_⟩
                      have n5_ : Aside0 (gb252 ≠ gb260) := ⟨h5_⟩
                      have n6_ : Aside0 (gb260 ≠ gb252) := ⟨h6_⟩
                      have n7_ : Aside0 (gb253 ≠ gb260) := ⟨h7_⟩
                      have n8_ : Aside0 (gb260 ≠ gb253) := ⟨h8_⟩
                      have n9_ : Aside0 (Below w.heap.size w w39) := ⟨h9_⟩
                      clear BK252
                      clear BK253
                      clear HB
                      clear h0_ h1_ h2_ h3_ h4_ h5_ h6_ h7_ h8_ h9_
                      have BK252 := n0_
                      have BK253 := n1_
                      have BK260 := n2_
                      have GW260 := n3_
                      have GE260 := n4_
                      have NB252_260 := n5_
                      have NB260_252 := n6_
                      have NB253_260 := n7_
                      have NB260_253 := n8_
                      have HB := n9_
                      clear n0_ n1_ n2_ n3_ n4_ n5_ n6_ n7_ n8_ n9_
                      have hHeld : w39.cell? ⟨gb252, 0, none⟩ = some (.string a0_0) ∧ w39.cell? ⟨gb252, 1, none⟩ = some (.int .i64 a0_1) ∧ w39.cell? ⟨gb252, 2, none⟩ = some (.int .i64 a0_2) ∧ w39.cell? ⟨gb252, 3, none⟩ = some (.int .i64 a0_3) ∧ w39.cell? ⟨gb252, 4, none⟩ = some (.int .i64 a0_4) ∧ w39.cell? ⟨gb252, 5, none⟩ = some (.int .i64 a0_5) ∧ w39.cell? ⟨gb252, 6, none⟩ = some (.int .i64 a0_6) ∧ w39.cell? ⟨gb252, 7, none⟩ = some (.int .i64 a0_7) ∧ w39.cell? ⟨gb253, 0, none⟩ = some (.int .i64 x254000_2) ∧ w39.cell? ⟨gb253, 1, none⟩ = some (.int .i64 x254001_2) ∧ w39.cell? (ad256.add (x10_2).toNat) = some (.int .i64 (rd l2 x10_2)) := hS_
                      refine norm_ (a' := ?_) ?_ ?_
                      rotate_left
                      · simp only [putAll, Act.put, List.setIfInBounds_toArray, List.set_cons_zero, List.set_cons_succ]
                        rfl
                      refine one_ (i := 11) (N := none) #[true, true, true, true, true, true, true, true, true, true, true, true, false] rfl rfl (one_of HT_.out (by kernel_rfl)) (by decide) (fun K hK => ?_)
                      have hs40 : w39.cell? ⟨gb260, 0, none⟩ = some (.int .i64 0) := (blk_cell BK260.out 0).trans rfl
                      have hfs40 := blk_frozen BK260.out 0
                      have hns40_0 := NB252_260.out
                      have hns40_1 := NB253_260.out
                      have hms40_0 := NB260_252.out
                      have hms40_1 := NB260_253.out
                      have hs41 : w39.cell? ⟨gb260, 1, none⟩ = some (.int .i64 0) := (blk_cell BK260.out 1).trans rfl
                      have hfs41 := blk_frozen BK260.out 1
                      have hns41_0 := NB252_260.out
                      have hns41_1 := NB253_260.out
                      have hms41_0 := NB260_252.out
                      have hms41_1 := NB260_253.out
                      refine skip_ (w1 := ?_) (by rfl) rfl ?_ ?_
                      rotate_left
                      · go_simp
                        rfl
                      refine hK.out _ _ ⟨((cell_far (p := ⟨gb260, _, none⟩) NB252_260.out _).trans (((cell_far (p := ⟨gb260, _, none⟩) NB252_260.out _).trans (hHeld.1)))), ((cell_far (p := ⟨gb260, _, none⟩) NB252_260.out _).trans (((cell_far (p := ⟨gb260, _, none⟩) NB252_260.out _).trans (hHeld.2.1)))), ((cell_far (p := ⟨gb260, _, none⟩) NB252_260.out _).trans (((cell_far (p := ⟨gb260, _, none⟩) NB252_260.out _).trans (hHeld.2.2.1)))), ((cell_far (p := ⟨gb260, _, none⟩) NB252_260.out _).trans (((cell_far (p := ⟨gb260, _, none⟩) NB252_260.out _).trans (hHeld.2.2.2.1)))), ((cell_far (p := ⟨gb260, _, none⟩) NB252_260.out _).trans (((cell_far (p := ⟨gb260, _, none⟩) NB252_260.out _).trans (hHeld.2.2.2.2.1)))), ((cell_far (p := ⟨gb260, _, none⟩) NB252_260.out _).trans (((cell_far (p := ⟨gb260, _, none⟩) NB252_260.out _).trans (hHeld.2.2.2.2.2.1)))), ((cell_far (p := ⟨gb260, _, none⟩) NB252_260.out _).trans (((cell_far (p := ⟨gb260, _, none⟩) NB252_260.out _).trans (hHeld.2.2.2.2.2.2.1)))), ((cell_far (p := ⟨gb260, _, none⟩) NB252_260.out _).trans (((cell_far (p := ⟨gb260, _, none⟩) NB252_260.out _).trans (hHeld.2.2.2.2.2.2.2.1)))), ((cell_far (p := ⟨gb260, _, none⟩) NB253_260.out _).trans (((cell_far (p := ⟨gb260, _, none⟩) NB253_260.out _).trans (hHeld.2.2.2.2.2.2.2.2.1)))), ((cell_far (p := ⟨gb260, _, none⟩) NB253_260.out _).trans (((cell_far (p := ⟨gb260, _, none⟩) NB253_260.out _).trans (hHeld.2.2.2.2.2.2.2.2.2.1)))), ((cell_far (p := ⟨gb260, _, none⟩) (by first | exact Nat.ne_of_lt (Nat.lt_of_lt_of_le (by have := World.block_lt_of_cell? _ _ hw256_0; first | rwa [add_block] at this | exact this) GW260.out) | (rw [add_block]; exact Nat.ne_of_lt (Nat.lt_of_lt_of_le (by have := World.block_lt_of_cell? _ _ hw256_0; first | rwa [add_block] at this | exact this) GW260.out)) | (show (Addr.add _ _).block ≠ _; rw [add_block]; exact Nat.ne_of_lt (Nat.lt_of_lt_of_le (by have := World.block_lt_of_cell? _ _ hw256_0; first | rwa [add_block] at this | exact this) GW260.out)) | (dsimp only; exact Nat.ne_of_lt (Nat.lt_of_lt_of_le (by have := World.block_lt_of_cell? _ _ hw256_0; first | rwa [add_block] at this | exact this) GW260.out))) _).trans (((cell_far (p := ⟨gb260, _, none⟩) (by first | exact Nat.ne_of_lt (Nat.lt_of_lt_of_le (by have := World.block_lt_of_cell? _ _ hw256_0; first | rwa [add_block] at this | exact this) GW260.out) | (rw [add_block]; exact Nat.ne_of_lt (Nat.lt_of_lt_of_le (by have := World.block_lt_of_cell? _ _ hw256_0; first | rwa [add_block] at this | exact this) GW260.out)) | (show (Addr.add _ _).block ≠ _; rw [add_block]; exact Nat.ne_of_lt (Nat.lt_of_lt_of_le (by have := World.block_lt_of_cell? _ _ hw256_0; first | rwa [add_block] at this | exact this) GW260.out)) | (dsimp only; exact Nat.ne_of_lt (Nat.lt_of_lt_of_le (by have := World.block_lt_of_cell? _ _ hw256_0; first | rwa [add_block] at this | exact this) GW260.out))) _).trans (hHeld.2.2.2.2.2.2.2.2.2.2))))⟩ (fun hHeld => ?_)
                      clear hK K
                      refine pure_ (i := 12) (N := some 12) (v := ?_) (a' := ?_) #[true, true, true, true, true, true, true, true, true, true, true, true, true] rfl rfl (any_of HT_.out (by kernel_rfl)) (fun _ _ _ h => h) (Or.inl ⟨by rfl, ?_⟩) ?_ ?_
                      rotate_left
                      · intro w'
                        go_simp
                        with_reducible rfl
                      rotate_left
                      · simp only [Act.put, List.setIfInBounds_toArray, List.set_cons_zero, List.set_cons_succ, i64_w, i32_w]
                        rfl
                      refine done_ (done_of HT_.out (by kernel_rfl)) ?_
                      have hnb42 := NB260_252.out
                      have hnc42 := NB252_260.out
                      have hnb43 := NB260_253.out
                      have hnc43 := NB253_260.out
                      have hcz44_0 : w39.cell? ⟨gb260, 0, none⟩ = some (.int .i64 0) := (blk_cell BK260.out 0).trans rfl
                      have hcz44_1 : w39.cell? ⟨gb260, 1, none⟩ = some (.int .i64 0) := (blk_cell BK260.out 1).trans rfl
                      have hfz44_0 := blk_frozen BK260.out 0
                      have hfz44_1 := blk_frozen BK260.out 1
                      have hnb45 := NB253_252.out
                      have hnc45 := NB252_253.out
                      have hcz46_0 : w39.cell? ⟨gb253, 0, none⟩ = some (.int .i64 x254000_2) := (blk_cell BK253.out 0).trans rfl
                      have hcz46_1 : w39.cell? ⟨gb253, 1, none⟩ = some (.int .i64 x254001_2) := (blk_cell BK253.out 1).trans rfl
                      have hfz46_0 := blk_frozen BK253.out 0
                      have hfz46_1 := blk_frozen BK253.out 1
                      try go_wp2
                      go_roundg k2
                      case measure => have := HJ5.out; have := HK2.out; omega
                      case rel => exact ⟨(false), (0), (wrap64 (x10_2 + 1)), (t257), (t258), (by first | rfl | (simp; done) | (simp [*]; done)), (by first | rfl | (simp; done) | (simp [*]; done)), (by first | rfl | (simp; done) | (simp [*]; done)), H', ⟨by have := HJ5.out; have := HK2.out; omega⟩, ⟨by (with_reducible repeat (first | refine blk_drewN ?_ _ | refine blk_drew ?_ | refine blk_alloc ?_ _)); refine blk_far ?_ NB252_253.out _; (with_reducible repeat (first | refine blk_drewN ?_ _ | refine blk_drew ?_ | refine blk_alloc ?_ _)); refine blk_far ?_ NB252_253.out _; (with_reducible repeat (first | refine blk_drewN ?_ _ | refine blk_drew ?_ | refine blk_alloc ?_ _)); refine blk_far ?_ NB252_260.out _; (with_reducible repeat (first | refine blk_drewN ?_ _ | refine blk_drew ?_ | refine blk_alloc ?_ _)); refine blk_far ?_ NB252_260.out _; (with_reducible repeat (first | refine blk_drewN ?_ _ | refine blk_drew ?_ | refine blk_alloc ?_ _)); exact BK252.out⟩, ⟨by (with_reducible repeat (first | refine blk_drewN ?_ _ | refine blk_drew ?_ | refine blk_alloc ?_ _)); refine blk_put (cs := #[.int .i64 t257, .int .i64 x254001_2]) ?_ 1 _ rfl; (with_reducible repeat (first | refine blk_drewN ?_ _ | refine blk_drew ?_ | refine blk_alloc ?_ _)); refine blk_put (cs := #[.int .i64 x254000_2, .int .i64 x254001_2]) ?_ 0 _ rfl; (with_reducible repeat (first | refine blk_drewN ?_ _ | refine blk_drew ?_ | refine blk_alloc ?_ _)); refine blk_far ?_ NB253_260.out _; (with_reducible repeat (first | refine blk_drewN ?_ _ | refine blk_drew ?_ | refine blk_alloc ?_ _)); refine blk_far ?_ NB253_260.out _; (with_reducible repeat (first | refine blk_drewN ?_ _ | refine blk_drew ?_ | refine blk_alloc ?_ _)); exact BK253.out⟩, ⟨by repeat (first | (with_reducible first | exact HB.out | apply below_alloc | apply pw_below_drewN | apply below_drew1 | refine below_set ?_ GE252.out | refine below_set ?_ GE253.out | refine below_set ?_ GE260.out) | exact HB.out)⟩⟩
                  · rw [if_neg c22] at H
                    have c22b0 : ((t257 == 0) != (x254000_2 == 0)) = false := by simpa using c22
                    (try (have c22b1 : decide ((t257 == 0) = (x254000_2 == 0)) = true := by simpa using c22))
                    (try (have c22b2 : ((t257 == 0) == (x254000_2 == 0)) = true := by simpa using c22))
                    clear c22
                    by_cases c47 : x7_2 = true
                    · subst c47
                      have H1 : (chargeparklaw24_RampSince.l0 k2 l2 (t258 == (mn (wrap64 (x9_2 + 1)) 1000000)) (wrap64 (x9_2 + 1)) (wrap64 (x10_2 + 1)) a0_0 a0_1 a0_2 a0_3 a0_4 a0_5 a0_6 a0_7 t257 t258) = some r := by rw [if_pos rfl] at H; exact H
                      clear H
                      have H := H1
                      clear H1
                      obtain ⟨ji48, hji48⟩ : ∃ j_ : Int, (mn (wrap64 (x9_2 + 1)) 1000000) = j_ := ⟨_, rfl⟩
                      replace H : (chargeparklaw24_RampSince.l0 k2 l2 (t258 == (ji48)) (wrap64 (x9_2 + 1)) (wrap64 (x10_2 + 1)) a0_0 a0_1 a0_2 a0_3 a0_4 a0_5 a0_6 a0_7 t257 t258) = some r := by first | (rw [hji48] at H; exact H) | (simp only [hji48] at H ⊢; exact H)
                      (try rw [hji48] at A20)
                      have hji48_ : (if 1000000 < (wrap64 (x9_2 + 1)) then 1000000 else (wrap64 (x9_2 + 1))) = ji48 := hji48
                      have H' := Aside0.mk H
                      clear H
                      try go_wp2
                      have n0_ := Aside0.mk (blk_drew BK252.out)
                      have n1_ := Aside0.mk (blk_drew BK253.out)
                      have n2_ := Aside0.mk (below_drew1 HB.out)
                      clear BK252
                      clear BK253
                      clear HB
                      have BK252 := n0_
                      have BK253 := n1_
                      have HB := n2_
                      clear n0_ n1_ n2_
                      have p256 : 0 ≤ (x10_2 : Int) := of_decide_eq_true (by first | (with_reducible assumption) | assumption)
                      have q256 : x10_2 < (l2.length : Int) := of_decide_eq_true (by first | (with_reducible assumption) | assumption)
                      obtain ⟨ad256, e256, hx256_0⟩ := Kd.at_int HR2.out x10_2 p256 q256
                      have hw256_0 := hx256_0
                      cases e256
                      replace hx256_0 := (HB.out.cell (World.block_lt_of_cell? w _ hx256_0)).trans hx256_0
                      replace p256 := eq_true p256
                      replace q256 := eq_true q256
                      refine start_ (n := 13) (S := fun w' => w'.cell? ⟨gb252, 0, none⟩ = some (.string a0_0) ∧ w'.cell? ⟨gb252, 1, none⟩ = some (.int .i64 a0_1) ∧ w'.cell? ⟨gb252, 2, none⟩ = some (.int .i64 a0_2) ∧ w'.cell? ⟨gb252, 3, none⟩ = some (.int .i64 a0_3) ∧ w'.cell? ⟨gb252, 4, none⟩ = some (.int .i64 a0_4) ∧ w'.cell? ⟨gb252, 5, none⟩ = some (.int .i64 a0_5) ∧ w'.cell? ⟨gb252, 6, none⟩ = some (.int .i64 a0_6) ∧ w'.cell? ⟨gb252, 7, none⟩ = some (.int .i64 a0_7) ∧ w'.cell? ⟨gb253, 0, none⟩ = some (.int .i64 x254000_2) ∧ w'.cell? ⟨gb253, 1, none⟩ = some (.int .i64 x254001_2) ∧ w'.cell? (ad256.add (x10_2).toNat) = some (.int .i64 (rd l2 x10_2))) (ds := []) #[false, false, false, false, false, false, false, false, false, false, false, false, false] (by kernel_rfl) rfl rfl ⟨(blk_cell BK252.out 0).trans rfl, (blk_cell BK252.out 1).trans rfl, (blk_cell BK252.out 2).trans rfl, (blk_cell BK252.out 3).trans rfl, (blk_cell BK252.out 4).trans rfl, (blk_cell BK252.out 5).trans rfl, (blk_cell BK252.out 6).trans rfl, (blk_cell BK252.out 7).trans rfl, (blk_cell BK253.out 0).trans rfl, (blk_cell BK253.out 1).trans rfl, ((HB.out.cell (World.block_lt_of_cell? w _ hw256_0)).trans hw256_0)⟩ (fun hHeld => ?_); refine with_tabW chargeparklaw24_RampSince.tab9 chargeparklaw24_RampSince.bits9 (fun HT_ HW_ => ?_)
                      generalize wr.drew = w49 at BK252 BK253 HB hx256_0 hHeld ⊢
                      refine pure_ (i := 2) (N := some 37) (v := ?_) (a' := ?_) #[false, false, true, false, false, false, false, false, false, false, false, false, false] rfl rfl (any_of HT_.out (by kernel_rfl)) (fun _ _ _ h => h) (Or.inl ⟨by rfl, ?_⟩) ?_ ?_
                      rotate_left
                      · intro w'
                        go_simp
                        with_reducible rfl
                      rotate_left
                      · simp only [Act.put, List.setIfInBounds_toArray, List.set_cons_zero, List.set_cons_succ, i64_w, i32_w]
                        rfl
                      refine pure_ (i := 3) (N := some 38) (v := ?_) (a' := ?_) #[false, false, true, true, false, false, false, false, false, false, false, false, false] rfl rfl (any_of HT_.out (by kernel_rfl)) (fun _ _ _ h => h) (Or.inl ⟨by rfl, ?_⟩) ?_ ?_
                      rotate_left
                      · intro w'
                        go_simp
                        with_reducible rfl
                      rotate_left
                      · simp only [Act.put, List.setIfInBounds_toArray, List.set_cons_zero, List.set_cons_succ, i64_w, i32_w]
                        rfl
                      refine pure_ (i := 4) (N := some 39) (v := ?_) (a' := ?_) #[false, false, true, true, true, false, false, false, false, false, false, false, false] rfl rfl (any_of HT_.out (by kernel_rfl)) (fun _ _ _ h => h) (Or.inl ⟨by rfl, ?_⟩) ?_ ?_
                      rotate_left
                      · intro w'
                        go_simp
                        with_reducible rfl
                      rotate_left
                      · simp only [Act.put, List.setIfInBounds_toArray, List.set_cons_zero, List.set_cons_succ, i64_w, i32_w]
                        rfl
                      refine take_ (i := 0) (N := some 35) (v := ?_) (a' := ?_) #[true, false, true, true, true, false, false, false, false, false, false, false, false] rfl rfl (take_ofW HT_.out HW_.out (by kernel_rfl)) (fun _ _ _ h => h) (Or.inl ⟨by rfl, ?_⟩) hHeld ?_ ?_
                      rotate_left
                      · rintro w' ⟨s0, s1, s2, s3, s4, s5, s6, s7, s8, s9, s10⟩
                        go_simp
                        with_reducible rfl
                      rotate_left
                      · simp only [Act.put, List.setIfInBounds_toArray, List.set_cons_zero, List.set_cons_succ, i64_w, i32_w]
                        rfl
                      refine take_ (i := 1) (N := some 36) (v := ?_) (a' := ?_) #[true, true, true, true, true, false, false, false, false, false, false, false, false] rfl rfl (take_ofW HT_.out HW_.out (by kernel_rfl)) (fun _ _ _ h => h) (Or.inl ⟨by rfl, ?_⟩) hHeld ?_ ?_
                      rotate_left
                      · rintro w' ⟨s0, s1, s2, s3, s4, s5, s6, s7, s8, s9, s10⟩
                        go_simp
                        with_reducible rfl
                      rotate_left
                      · simp only [Act.put, List.setIfInBounds_toArray, List.set_cons_zero, List.set_cons_succ, i64_w, i32_w]
                        rfl
                      refine take_ (i := 5) (N := some 40) (v := ?_) (a' := ?_) #[true, true, true, true, true, true, false, false, false, false, false, false, false] rfl rfl (take_ofW HT_.out HW_.out (by kernel_rfl)) (fun _ _ _ h => h) (Or.inl ⟨by rfl, ?_⟩) hHeld ?_ ?_
                      rotate_left
                      · rintro w' ⟨s0, s1, s2, s3, s4, s5, s6, s7, s8, s9, s10⟩
                        go_simp
                        with_reducible rfl
                      rotate_left
                      · simp only [Act.put, List.setIfInBounds_toArray, List.set_cons_zero, List.set_cons_succ, i64_w, i32_w]
                        rfl
                      refine join_ (σ := Nat) 2 #[true, true, true, true, true, true, true, true, true, true, true, false, false] (fun s_ => [(41, .tuple #[.agg #[.int .i64 t257, .int .i64 t258], .int .i64 t259]), (11, .pointer (some ⟨s_, 0, none⟩)), (34, .tuple #[.agg #[.int .i64 t257, .int .i64 t258], .int .i64 t259]), (42, .agg #[.int .i64 t257, .int .i64 t258]), (43, .int .i64 t259)]) (fun s_ w' => (w'.cell? ⟨gb252, 0, none⟩ = some (.string a0_0) ∧ w'.cell? ⟨gb252, 1, none⟩ = some (.int .i64 a0_1) ∧ w'.cell? ⟨gb252, 2, none⟩ = some (.int .i64 a0_2) ∧ w'.cell? ⟨gb252, 3, none⟩ = some (.int .i64 a0_3) ∧ w'.cell? ⟨gb252, 4, none⟩ = some (.int .i64 a0_4) ∧ w'.cell? ⟨gb252, 5, none⟩ = some (.int .i64 a0_5) ∧ w'.cell? ⟨gb252, 6, none⟩ = some (.int .i64 a0_6) ∧ w'.cell? ⟨gb252, 7, none⟩ = some (.int .i64 a0_7) ∧ w'.cell? ⟨gb253, 0, none⟩ = some (.int .i64 x254000_2) ∧ w'.cell? ⟨gb253, 1, none⟩ = some (.int .i64 x254001_2) ∧ w'.cell? (ad256.add (x10_2).toNat) = some (.int .i64 (rd l2 x10_2))) ∧ (w'.heap[gb252]? = some (.cells #[.string a0_0, .int .i64 a0_1, .int .i64 a0_2, .int .i64 a0_3, .int .i64 a0_4, .int .i64 a0_5, .int .i64 a0_6, .int .i64 a0_7] 23 (0, 0))) ∧ (w'.heap[gb253]? = some (.cells #[.int .i64 x254000_2, .int .i64 x254001_2] 25 (0, 0))) ∧ (w'.heap[s_]? = some (.cells #[.int .i64 0, .int .i64 0] 25 (0, 0))) ∧ (w.heap.size ≤ s_) ∧ (w.heap.size ≤ s_) ∧ (gb252 ≠ s_) ∧ (s_ ≠ gb252) ∧ (gb253 ≠ s_) ∧ (s_ ≠ gb253) ∧ (Below w.heap.size w w')) ?_ ?_
                      rotate_left
                      · intro hCont
                        refine two_ (i := 6) (j := 10) (Ni := some 41) (Nj := some 11) #[true, true, true, true, true, true, true, false, false, false, false, false, false] #[true, true, true, true, true, true, false, false, false, false, true, false, false] rfl rfl rfl rfl (two_of HT_.out (by kernel_rfl)) (by decide) (by decide) (fun K hK => ?_) (fun K hK => ?_)
                        · skip
                          refine goes_ Tryd.func10 (by kernel_rfl) rfl #[.agg #[.string a0_0, .int .i64 a0_1, .int .i64 a0_2, .int .i64 a0_3, .int .i64 a0_4, .int .i64 a0_5, .int .i64 a0_6, .int .i64 a0_7], .agg #[.int .i64 x254000_2, .int .i64 x254001_2], .int .i64 (rd l2 x10_2)] (by rfl) rfl rfl (by (try simp only [List.map_toArray, List.map_cons, List.map_nil]); first | done | rfl | (simp only [List.length_drop, List.length_take]; rfl)) ?_
                          with_reducible refine (ramp_Next.calls a0_0 a0_1 a0_2 a0_3 a0_4 a0_5 a0_6 a0_7 x254000_2 x254001_2 (rd l2 x10_2) t257 t258 t259 _ (hG.below (by repeat (first | (with_reducible first | exact HB.out | apply below_alloc | apply pw_below_drewN | apply below_drew1) | exact HB.out))) A20.out).mono ?_
                          rintro e w50 ⟨rfl, hb⟩
                          refine ⟨_, rfl, ?_⟩
                          have n0_ := Aside0.mk (blk_below (g := gb252) (o := .cells #[.string a0_0, .int .i64 a0_1, .int .i64 a0_2, .int .i64 a0_3, .int .i64 a0_4, .int .i64 a0_5, .int .i64 a0_6, .int .i64 a0_7] 23 (0, 0)) (by (with_reducible repeat (first | refine blk_drewN ?_ _ | refine blk_drew ?_ | refine blk_alloc ?_ _)); exact BK252.out) hb)
                          have n1_ := Aside0.mk (blk_below (g := gb253) (o := .cells #[.int .i64 x254000_2, .int .i64 x254001_2] 25 (0, 0)) (by (with_reducible repeat (first | refine blk_drewN ?_ _ | refine blk_drew ?_ | refine blk_alloc ?_ _)); exact BK253.out) hb)
                          have n2_ := Aside0.mk (below_step (by repeat (first | (with_reducible first | exact HB.out | apply below_alloc | apply pw_below_drewN | apply below_drew1 | refine below_set ?_ GE252.out | refine below_set ?_ GE253.out) | exact HB.out)) hb)
                          clear BK252
                          clear BK253
                          clear HB
                          have BK252 := n0_
                          have BK253 := n1_
                          have HB := n2_
                          clear n0_ n1_ n2_
                          (try clear hb)
                          (try clear hb2)
                          (try clear hk)
                          (try clear hi)
                          refine hK.out _ _ ⟨(blk_cell BK252.out 0).trans rfl, (blk_cell BK252.out 1).trans rfl, (blk_cell BK252.out 2).trans rfl, (blk_cell BK252.out 3).trans rfl, (blk_cell BK252.out 4).trans rfl, (blk_cell BK252.out 5).trans rfl, (blk_cell BK252.out 6).trans rfl, (blk_cell BK252.out 7).trans rfl, (blk_cell BK253.out 0).trans rfl, (blk_cell BK253.out 1).trans rfl, ((HB.out.cell (World.block_lt_of_cell? w _ hw256_0)).trans hw256_0)⟩ (fun hHeld => ?_)
                          clear hK K
                          refine norm_ (a' := ?_) ?_ ?_
                          rotate_left
                          · show Act.put _ (some 41) _ = _
                            simp only [Act.put, List.setIfInBounds_toArray, List.set_cons_zero, List.set_cons_succ, i64_w, i32_w]
                            rfl
                          refine pure_ (i := 7) (N := some 34) (v := ?_) (a' := ?_) #[true, true, true, true, true, true, true, true, false, false, false, false, false] rfl rfl (any_of HT_.out (by kernel_rfl)) (fun _ _ _ h => h) (Or.inl ⟨by rfl, ?_⟩) ?_ ?_
                          rotate_left
                          · intro w'
                            go_simp
                            with_reducible rfl
                          rotate_left
                          · simp only [Act.put, List.setIfInBounds_toArray, List.set_cons_zero, List.set_cons_succ, i64_w, i32_w]
                            rfl
                          refine pure_ (i := 8) (N := some 42) (v := ?_) (a' := ?_) #[true, true, true, true, true, true, true, true, true, false, false, false, false] rfl rfl (any_of HT_.out (by kernel_rfl)) (fun _ _ _ h => h) (Or.inl ⟨by rfl, ?_⟩) ?_ ?_
                          rotate_left
                          · intro w'
                            go_simp
                            with_reducible rfl
                          rotate_left
                          · simp only [Act.put, List.setIfInBounds_toArray, List.set_cons_zero, List.set_cons_succ, i64_w, i32_w]
                            rfl
                          refine pure_ (i := 9) (N := some 43) (v := ?_) (a' := ?_) #[true, true, true, true, true, true, true, true, true, true, false, false, false] rfl rfl (any_of HT_.out (by kernel_rfl)) (fun _ _ _ h => h) (Or.inl ⟨by rfl, ?_⟩) ?_ ?_
                          rotate_left
                          · intro w'
                            go_simp
                            with_reducible rfl
                          rotate_left
                          · simp only [Act.put, List.setIfInBounds_toArray, List.set_cons_zero, List.set_cons_succ, i64_w, i32_w]
                            rfl
                          refine one_ (i := 10) (N := some 11) #[true, true, true, true, true, true, true, true, true, true, true, false, false] rfl rfl (one_of HT_.out (by kernel_rfl)) (by decide) (fun K hK => ?_)
                          refine box_step ?hg (N := 11) ?hd (cs := #[.int .i64 0, .int .i64 0]) (t := 25) ?hr ?_; (case hd => rfl); (case hg => rfl); (case hr => first | (go_simp; done) | (go_simp; rfl))
                          intro gb260 hg w51 hbox hb
                          have n0_ := Aside0.mk (blk_below (g := gb252) (o := .cells #[.string a0_0, .int .i64 a0_1, .int .i64 a0_2, .int .i64 a0_3, .int .i64 a0_4, .int .i64 a0_5, .int .i64 a0_6, .int .i64 a0_7] 23 (0, 0)) (by (with_reducible repeat (first | refine blk_drewN ?_ _ | refine blk_drew ?_ | refine blk_alloc ?_ _)); exact BK252.out) hb)
                          have n1_ := Aside0.mk (blk_below (g := gb253) (o := .cells #[.int .i64 x254000_2, .int .i64 x254001_2] 25 (0, 0)) (by (with_reducible repeat (first | refine blk_drewN ?_ _ | refine blk_drew ?_ | refine blk_alloc ?_ _)); exact BK253.out) hb)
                          have n2_ := Aside0.mk (below_step (by repeat (first | (with_reducible first | exact HB.out | apply below_alloc | apply pw_below_drewN | apply below_drew1 | refine below_set ?_ GE252.out | refine below_set ?_ GE253.out) | exact HB.out)) hb)
                          have n3_ := Aside0.mk (hbox)
                          have n4_ := Aside0.mk ((by rw [hg]; exact (below_size (by repeat (first | (with_reducible first | exact HB.out | apply below_alloc | apply pw_below_drewN | apply below_drew1 | refine below_set ?_ GE252.out | refine below_set ?_ GE253.out) | exact HB.out))) : w.heap.size ≤ gb260))
                          have n5_ := Aside0.mk ((by rw [hg]; exact (below_size (by repeat (first | (with_reducible first | exact HB.out | apply below_alloc | apply pw_below_drewN | apply below_drew1 | refine below_set ?_ GE252.out | refine below_set ?_ GE253.out) | exact HB.out))) : w.heap.size ≤ gb260))
                          have n6_ := Aside0.mk ((by rw [hg]; exact Nat.ne_of_lt (blk_lt (g := gb252) (o := .cells #[.string a0_0, .int .i64 a0_1, .int .i64 a0_2, .int .i64 a0_3, .int .i64 a0_4, .int .i64 a0_5, .int .i64 a0_6, .int .i64 a0_7] 23 (0, 0)) (by (with_reducible repeat (first | refine blk_drewN ?_ _ | refine blk_drew ?_ | refine blk_alloc ?_ _)); exact BK252.out)) : gb252 ≠ gb260))
                          have n7_ := Aside0.mk ((by rw [hg]; exact Nat.ne_of_gt (blk_lt (g := gb252) (o := .cells #[.string a0_0, .int .i64 a0_1, .int .i64 a0_2, .int .i64 a0_3, .int .i64 a0_4, .int .i64 a0_5, .int .i64 a0_6, .int .i64 a0_7] 23 (0, 0)) (by (with_reducible repeat (first | refine blk_drewN ?_ _ | refine blk_drew ?_ | refine blk_alloc ?_ _)); exact BK252.out)) : gb260 ≠ gb252))
                          have n8_ := Aside0.mk ((by rw [hg]; exact Nat.ne_of_lt (blk_lt (g := gb253) (o := .cells #[.int .i64 x254000_2, .int .i64 x254001_2] 25 (0, 0)) (by (with_reducible repeat (first | refine blk_drewN ?_ _ | refine blk_drew ?_ | refine blk_alloc ?_ _)); exact BK253.out)) : gb253 ≠ gb260))
                          have n9_ := Aside0.mk ((by rw [hg]; exact Nat.ne_of_gt (blk_lt (g := gb253) (o := .cells #[.int .i64 x254000_2, .int .i64 x254001_2] 25 (0, 0)) (by (with_reducible repeat (first | refine blk_drewN ?_ _ | refine blk_drew ?_ | refine blk_alloc ?_ _)); exact BK253.out)) : gb260 ≠ gb253))
                          clear BK252
                          clear BK253
                          clear HB
                          have BK252 := n0_
                          have BK253 := n1_
                          have HB := n2_
                          have BK260 := n3_
                          have GW260 := n4_
                          have GE260 := n5_
                          have NB252_260 := n6_
                          have NB260_252 := n7_
                          have NB253_260 := n8_
                          have NB260_253 := n9_
                          clear n0_ n1_ n2_ n3_ n4_ n5_ n6_ n7_ n8_ n9_
                          clear hb hbox hg
                          refine hK.out _ _ ⟨(blk_cell BK252.out 0).trans rfl, (blk_cell BK252.out 1).trans rfl, (blk_cell BK252.out 2).trans rfl, (blk_cell BK252.out 3).trans rfl, (blk_cell BK252.out 4).trans rfl, (blk_cell BK252.out 5).trans rfl, (blk_cell BK252.out 6).trans rfl, (blk_cell BK252.out 7).trans rfl, (blk_cell BK253.out 0).trans rfl, (blk_cell BK253.out 1).trans rfl, ((HB.out.cell (World.block_lt_of_cell? w _ hw256_0)).trans hw256_0)⟩ (fun hHeld => ?_)
                          clear hK K
                          refine norm_ (a' := ?_) ?_ ?_
                          rotate_left
                          · show Act.put _ (some 11) _ = _
                            simp only [Act.put, List.setIfInBounds_toArray, List.set_cons_zero, List.set_cons_succ, i64_w, i32_w]
                            rfl
                          exact norm_ (by simp only [putAll, Act.put, List.setIfInBounds_toArray, List.set_cons_zero, List.set_cons_succ]) (hCont (gb260) _ ⟨hHeld, (by (with_reducible repeat (first | refine blk_drewN ?_ _ | refine blk_drew ?_ | refine blk_alloc ?_ _)); exact BK252.out), (by (with_reducible repeat (first | refine blk_drewN ?_ _ | refine blk_drew ?_ | refine blk_alloc ?_ _)); exact BK253.out), (by (with_reducible repeat (first | refine blk_drewN ?_ _ | refine blk_drew ?_ | refine blk_alloc ?_ _)); exact BK260.out), GW260.out, GE260.out, NB252_260.out, NB260_252.out, NB253_260.out, NB260_253.out, (by repeat (first | (with_reducible first | exact HB.out | apply below_alloc | apply pw_below_drewN | apply below_drew1 | refine below_set ?_ GE252.out | refine below_set ?_ GE253.out | refine below_set ?_ GE260.out) | exact HB.out))⟩)
                        · skip
                          refine box_step ?hg (N := 11) ?hd (cs := #[.int .i64 0, .int .i64 0]) (t := 25) ?hr ?_; (case hd => rfl); (case hg => rfl); (case hr => first | (go_simp; done) | (go_simp; rfl))
                          intro gb260 hg w50 hbox hb
                          have n0_ := Aside0.mk (blk_below (g := gb252) (o := .cells #[.string a0_0, .int .i64 a0_1, .int .i64 a0_2, .int .i64 a0_3, .int .i64 a0_4, .int .i64 a0_5, .int .i64 a0_6, .int .i64 a0_7] 23 (0, 0)) (by (with_reducible repeat (first | refine blk_drewN ?_ _ | refine blk_drew ?_ | refine blk_alloc ?_ _)); exact BK252.out) hb)
                          have n1_ := Aside0.mk (blk_below (g := gb253) (o := .cells #[.int .i64 x254000_2, .int .i64 x254001_2] 25 (0, 0)) (by (with_reducible repeat (first | refine blk_drewN ?_ _ | refine blk_drew ?_ | refine blk_alloc ?_ _)); exact BK253.out) hb)
                          have n2_ := Aside0.mk (below_step (by repeat (first | (with_reducible first | exact HB.out | apply below_alloc | apply pw_below_drewN | apply below_drew1 | refine below_set ?_ GE252.out | refine below_set ?_ GE253.out) | exact HB.out)) hb)
                          have n3_ := Aside0.mk (hbox)
                          have n4_ := Aside0.mk ((by rw [hg]; exact (below_size (by repeat (first | (with_reducible first | exact HB.out | apply below_alloc | apply pw_below_drewN | apply below_drew1 | refine below_set ?_ GE252.out | refine below_set ?_ GE253.out) | exact HB.out))) : w.heap.size ≤ gb260))
                          have n5_ := Aside0.mk ((by rw [hg]; exact (below_size (by repeat (first | (with_reducible first | exact HB.out | apply below_alloc | apply pw_below_drewN | apply below_drew1 | refine below_set ?_ GE252.out | refine below_set ?_ GE253.out) | exact HB.out))) : w.heap.size ≤ gb260))
                          have n6_ := Aside0.mk ((by rw [hg]; exact Nat.ne_of_lt (blk_lt (g := gb252) (o := .cells #[.string a0_0, .int .i64 a0_1, .int .i64 a0_2, .int .i64 a0_3, .int .i64 a0_4, .int .i64 a0_5, .int .i64 a0_6, .int .i64 a0_7] 23 (0, 0)) (by (with_reducible repeat (first | refine blk_drewN ?_ _ | refine blk_drew ?_ | refine blk_alloc ?_ _)); exact BK252.out)) : gb252 ≠ gb260))
                          have n7_ := Aside0.mk ((by rw [hg]; exact Nat.ne_of_gt (blk_lt (g := gb252) (o := .cells #[.string a0_0, .int .i64 a0_1, .int .i64 a0_2, .int .i64 a0_3, .int .i64 a0_4, .int .i64 a0_5, .int .i64 a0_6, .int .i64 a0_7] 23 (0, 0)) (by (with_reducible repeat (first | refine blk_drewN ?_ _ | refine blk_drew ?_ | refine blk_alloc ?_ _)); exact BK252.out)) : gb260 ≠ gb252))
                          have n8_ := Aside0.mk ((by rw [hg]; exact Nat.ne_of_lt (blk_lt (g := gb253) (o := .cells #[.int .i64 x254000_2, .int .i64 x254001_2] 25 (0, 0)) (by (with_reducible repeat (first | refine blk_drewN ?_ _ | refine blk_drew ?_ | refine blk_alloc ?_ _)); exact BK253.out)) : gb253 ≠ gb260))
                          have n9_ := Aside0.mk ((by rw [hg]; exact Nat.ne_of_gt (blk_lt (g := gb253) (o := .cells #[.int .i64 x254000_2, .int .i64 x254001_2] 25 (0, 0)) (by (with_reducible repeat (first | refine blk_drewN ?_ _ | refine blk_drew ?_ | refine blk_alloc ?_ _)); exact BK253.out)) : gb260 ≠ gb253))
                          clear BK252
                          clear BK253
                          clear HB
                          have BK252 := n0_
                          have BK253 := n1_
                          have HB := n2_
                          have BK260 := n3_
                          have GW260 := n4_
                          have GE260 := n5_
                          have NB252_260 := n6_
                          have NB260_252 := n7_
                          have NB253_260 := n8_
                          have NB260_253 := n9_
                          clear n0_ n1_ n2_ n3_ n4_ n5_ n6_ n7_ n8_ n9_
                          clear hb hbox hg
                          refine hK.out _ _ ⟨(blk_cell BK252.out 0).trans rfl, (blk_cell BK252.out 1).trans rfl, (blk_cell BK252.out 2).trans rfl, (blk_cell BK252.out 3).trans rfl, (blk_cell BK252.out 4).trans rfl, (blk_cell BK252.out 5).trans rfl, (blk_cell BK252.out 6).trans rfl, (blk_cell BK252.out 7).trans rfl, (blk_cell BK253.out 0).trans rfl, (blk_cell BK253.out 1).trans rfl, ((HB.out.cell (World.block_lt_of_cell? w _ hw256_0)).trans hw256_0)⟩ (fun hHeld => ?_)
                          clear hK K
                          refine norm_ (a' := ?_) ?_ ?_
                          rotate_left
                          · show Act.put _ (some 11) _ = _
                            simp only [Act.put, List.setIfInBounds_toArray, List.set_cons_zero, List.set_cons_succ, i64_w, i32_w]
                            rfl
                          refine one_ (i := 6) (N := some 41) #[true, true, true, true, true, true, true, false, false, false, true, false, false] rfl rfl (one_of HT_.out (by kernel_rfl)) (by decide) (fun K hK => ?_)
                          refine goes_ Tryd.func10 (by kernel_rfl) rfl #[.agg #[.string a0_0, .int .i64 a0_1, .int .i64 a0_2, .int .i64 a0_3, .int .i64 a0_4, .int .i64 a0_5, .int .i64 a0_6, .int .i64 a0_7], .agg #[.int .i64 x254000_2, .int .i64 x254001_2], .int .i64 (rd l2 x10_2)] (by rfl) rfl rfl (by (try simp only [List.map_toArray, List.map_cons, List.map_nil]); first | done | rfl | (simp only [List.length_drop, List.length_take]; rfl)) ?_
                          with_reducible refine (ramp_Next.calls a0_0 a0_1 a0_2 a0_3 a0_4 a0_5 a0_6 a0_7 x254000_2 x254001_2 (rd l2 x10_2) t257 t258 t259 _ (hG.below (by repeat (first | (with_reducible first | exact HB.out | apply below_alloc | apply pw_below_drewN | apply below_drew1) | exact HB.out))) A20.out).mono ?_
                          rintro e w51 ⟨rfl, hb⟩
                          refine ⟨_, rfl, ?_⟩
                          have n0_ := Aside0.mk (blk_below (g := gb252) (o := .cells #[.string a0_0, .int .i64 a0_1, .int .i64 a0_2, .int .i64 a0_3, .int .i64 a0_4, .int .i64 a0_5, .int .i64 a0_6, .int .i64 a0_7] 23 (0, 0)) (by (with_reducible repeat (first | refine blk_drewN ?_ _ | refine blk_drew ?_ | refine blk_alloc ?_ _)); exact BK252.out) hb)
                          have n1_ := Aside0.mk (blk_below (g := gb253) (o := .cells #[.int .i64 x254000_2, .int .i64 x254001_2] 25 (0, 0)) (by (with_reducible repeat (first | refine blk_drewN ?_ _ | refine blk_drew ?_ | refine blk_alloc ?_ _)); exact BK253.out) hb)
                          have n2_ := Aside0.mk (blk_below (g := gb260) (o := .cells #[.int .i64 0, .int .i64 0] 25 (0, 0)) (by (with_reducible repeat (first | refine blk_drewN ?_ _ | refine blk_drew ?_ | refine blk_alloc ?_ _)); exact BK260.out) hb)
                          have n3_ := Aside0.mk (below_step (by repeat (first | (with_reducible first | exact HB.out | apply below_alloc | apply pw_below_drewN | apply below_drew1 | refine below_set ?_ GE252.out | refine below_set ?_ GE253.out | refine below_set ?_ GE260.out) | exact HB.out)) hb)
                          clear BK252
                          clear BK253
                          clear BK260
                          clear HB
                          have BK252 := n0_
                          have BK253 := n1_
                          have BK260 := n2_
                          have HB := n3_
                          clear n0_ n1_ n2_ n3_
                          (try clear hb)
                          (try clear hb2)
                          (try clear hk)
                          (try clear hi)
                          refine hK.out _ _ ⟨(blk_cell BK252.out 0).trans rfl, (blk_cell BK252.out 1).trans rfl, (blk_cell BK252.out 2).trans rfl, (blk_cell BK252.out 3).trans rfl, (blk_cell BK252.out 4).trans rfl, (blk_cell BK252.out 5).trans rfl, (blk_cell BK252.out 6).trans rfl, (blk_cell BK252.out 7).trans rfl, (blk_cell BK253.out 0).trans rfl, (blk_cell BK253.out 1).trans rfl, ((HB.out.cell (World.block_lt_of_cell? w _ hw256_0)).trans hw256_0)⟩ (fun hHeld => ?_)
                          clear hK K
                          refine norm_ (a' := ?_) ?_ ?_
                          rotate_left
                          · show Act.put _ (some 41) _ = _
                            simp only [Act.put, List.setIfInBounds_toArray, List.set_cons_zero, List.set_cons_succ, i64_w, i32_w]
                            rfl
                          refine pure_ (i := 7) (N := some 34) (v := ?_) (a' := ?_) #[true, true, true, true, true, true, true, true, false, false, true, false, false] rfl rfl (any_of HT_.out (by kernel_rfl)) (fun _ _ _ h => h) (Or.inl ⟨by rfl, ?_⟩) ?_ ?_
                          rotate_left
                          · intro w'
                            go_simp
                            with_reducible rfl
                          rotate_left
                          · simp only [Act.put, List.setIfInBounds_toArray, List.set_cons_zero, List.set_cons_succ, i64_w, i32_w]
                            rfl
                          refine pure_ (i := 8) (N := some 42) (v := ?_) (a' := ?_) #[true, true, true, true, true, true, true, true, true, false, true, false, false] rfl rfl (any_of HT_.out (by kernel_rfl)) (fun _ _ _ h => h) (Or.inl ⟨by rfl, ?_⟩) ?_ ?_
                          rotate_left
                          · intro w'
                            go_simp
                            with_reducible rfl
                          rotate_left
                          · simp only [Act.put, List.setIfInBounds_toArray, List.set_cons_zero, List.set_cons_succ, i64_w, i32_w]
                            rfl
                          refine pure_ (i := 9) (N := some 43) (v := ?_) (a' := ?_) #[true, true, true, true, true, true, true, true, true, true, true, false, false] rfl rfl (any_of HT_.out (by kernel_rfl)) (fun _ _ _ h => h) (Or.inl ⟨by rfl, ?_⟩) ?_ ?_
                          rotate_left
                          · intro w'
                            go_simp
                            with_reducible rfl
                          rotate_left
                          · simp only [Act.put, List.setIfInBounds_toArray, List.set_cons_zero, List.set_cons_succ, i64_w, i32_w]
                            rfl
                          exact norm_ (by simp only [putAll, Act.put, List.setIfInBounds_toArray, List.set_cons_zero, List.set_cons_succ]) (hCont (gb260) _ ⟨hHeld, (by (with_reducible repeat (first | refine blk_drewN ?_ _ | refine blk_drew ?_ | refine blk_alloc ?_ _)); exact BK252.out), (by (with_reducible repeat (first | refine blk_drewN ?_ _ | refine blk_drew ?_ | refine blk_alloc ?_ _)); exact BK253.out), (by (with_reducible repeat (first | refine blk_drewN ?_ _ | refine blk_drew ?_ | refine blk_alloc ?_ _)); exact BK260.out), GW260.out, GE260.out, NB252_260.out, NB260_252.out, NB253_260.out, NB260_253.out, (by repeat (first | (with_reducible first | exact HB.out | apply below_alloc | apply pw_below_drewN | apply below_drew1 | refine below_set ?_ GE252.out | refine below_set ?_ GE253.out | refine below_set ?_ GE260.out) | exact HB.out))⟩)
                      rintro gb260 w52 ⟨hS_, h0_, h1_, h2_, h3_, h4_, h5_, h6_, h7_, h8_, h9_⟩
                      have n0_ : Aside0 (w52.heap[gb252]? = some (.cells #[.string a0_0, .int .i64 a0_1, .int .i64 a0_2, .int .i64 a0_3, .int .i64 a0_4, .int .i64 a0_5, .int .i64 a0_6, .int .i64 a0_7] 23 (0, 0))) := ⟨h0_⟩
                      have n1_ : Aside0 (w52.heap[gb253]? = some (.cells #[.int .i64 x254000_2, .int .i64 x254001_2] 25 (0, 0))) := ⟨h1_⟩
                      have n2_ : Aside0 (w52.heap[gb260]? = some (.cells #[.int .i64 0, .int .i64 0] 25 (0, 0))) := ⟨h2_⟩
                      have n3_ : Aside0 (w.heap.size ≤ gb260) := ⟨h3_⟩
                      have n4_ : Aside0 (w.heap.size ≤ gb260) := ⟨h4_⟩
                      have n5_ : Aside0 (gb252 ≠ gb260) := ⟨h5_⟩
                      have n6_ : Aside0 (gb260 ≠ gb252) := ⟨h6_⟩
                      have n7_ : Aside0 (gb253 ≠ gb260) := ⟨h7_⟩
                      have n8_ : Aside0 (gb260 ≠ gb253) := ⟨h8_⟩
                      have n9_ : Aside0 (Below w.heap.size w w52) := ⟨h9_⟩
                      clear BK252
                      clear BK253
                      clear HB
                      clear h0_ h1_ h2_ h3_ h4_ h5_ h6_ h7_ h8_ h9_
                      have BK252 := n0_
                      have BK253 := n1_
                      have BK260 := n2_
                      have GW260 := n3_
                      have GE260 := n4_
                      have NB252_260 := n5_
                      have NB260_252 := n6_
                      have NB253_260 := n7_
                      have NB260_253 := n8_
                      have HB := n9_
                      clear n0_ n1_ n2_ n3_ n4_ n5_ n6_ n7_ n8_ n9_
                      have hHeld : w52.cell? ⟨gb252, 0, none⟩ = some (.string a0_0) ∧ w52.cell? ⟨gb252, 1, none⟩ = some (.int .i64 a0_1) ∧ w52.cell? ⟨gb252, 2, none⟩ = some (.int .i64 a0_2) ∧ w52.cell? ⟨gb252, 3, none⟩ = some (.int .i64 a0_3) ∧ w52.cell? ⟨gb252, 4, none⟩ = some (.int .i64 a0_4) ∧ w52.cell? ⟨gb252, 5, none⟩ = some (.int .i64 a0_5) ∧ w52.cell? ⟨gb252, 6, none⟩ = some (.int .i64 a0_6) ∧ w52.cell? ⟨gb252, 7, none⟩ = some (.int .i64 a0_7) ∧ w52.cell? ⟨gb253, 0, none⟩ = some (.int .i64 x254000_2) ∧ w52.cell? ⟨gb253, 1, none⟩ = some (.int .i64 x254001_2) ∧ w52.cell? (ad256.add (x10_2).toNat) = some (.int .i64 (rd l2 x10_2)) := hS_
                      refine norm_ (a' := ?_) ?_ ?_
                      rotate_left
                      · simp only [putAll, Act.put, List.setIfInBounds_toArray, List.set_cons_zero, List.set_cons_succ]
                        rfl
                      refine one_ (i := 11) (N := none) #[true, true, true, true, true, true, true, true, true, true, true, true, false] rfl rfl (one_of HT_.out (by kernel_rfl)) (by decide) (fun K hK => ?_)
                      have hs53 : w52.cell? ⟨gb260, 0, none⟩ = some (.int .i64 0) := (blk_cell BK260.out 0).trans rfl
                      have hfs53 := blk_frozen BK260.out 0
                      have hns53_0 := NB252_260.out
                      have hns53_1 := NB253_260.out
                      have hms53_0 := NB260_252.out
                      have hms53_1 := NB260_253.out
                      have hs54 : w52.cell? ⟨gb260, 1, none⟩ = some (.int .i64 0) := (blk_cell BK260.out 1).trans rfl
                      have hfs54 := blk_frozen BK260.out 1
                      have hns54_0 := NB252_260.out
                      have hns54_1 := NB253_260.out
                      have hms54_0 := NB260_252.out
                      have hms54_1 := NB260_253.out
                      refine skip_ (w1 := ?_) (by rfl) rfl ?_ ?_
                      rotate_left
                      · go_simp
                        rfl
                      refine hK.out _ _ ⟨((cell_far (p := ⟨gb260, _, none⟩) NB252_260.out _).trans (((cell_far (p := ⟨gb260, _, none⟩) NB252_260.out _).trans (hHeld.1)))), ((cell_far (p := ⟨gb260, _, none⟩) NB252_260.out _).trans (((cell_far (p := ⟨gb260, _, none⟩) NB252_260.out _).trans (hHeld.2.1)))), ((cell_far (p := ⟨gb260, _, none⟩) NB252_260.out _).trans (((cell_far (p := ⟨gb260, _, none⟩) NB252_260.out _).trans (hHeld.2.2.1)))), ((cell_far (p := ⟨gb260, _, none⟩) NB252_260.out _).trans (((cell_far (p := ⟨gb260, _, none⟩) NB252_260.out _).trans (hHeld.2.2.2.1)))), ((cell_far (p := ⟨gb260, _, none⟩) NB252_260.out _).trans (((cell_far (p := ⟨gb260, _, none⟩) NB252_260.out _).trans (hHeld.2.2.2.2.1)))), ((cell_far (p := ⟨gb260, _, none⟩) NB252_260.out _).trans (((cell_far (p := ⟨gb260, _, none⟩) NB252_260.out _).trans (hHeld.2.2.2.2.2.1)))), ((cell_far (p := ⟨gb260, _, none⟩) NB252_260.out _).trans (((cell_far (p := ⟨gb260, _, none⟩) NB252_260.out _).trans (hHeld.2.2.2.2.2.2.1)))), ((cell_far (p := ⟨gb260, _, none⟩) NB252_260.out _).trans (((cell_far (p := ⟨gb260, _, none⟩) NB252_260.out _).trans (hHeld.2.2.2.2.2.2.2.1)))), ((cell_far (p := ⟨gb260, _, none⟩) NB253_260.out _).trans (((cell_far (p := ⟨gb260, _, none⟩) NB253_260.out _).trans (hHeld.2.2.2.2.2.2.2.2.1)))), ((cell_far (p := ⟨gb260, _, none⟩) NB253_260.out _).trans (((cell_far (p := ⟨gb260, _, none⟩) NB253_260.out _).trans (hHeld.2.2.2.2.2.2.2.2.2.1)))), ((cell_far (p := ⟨gb260, _, none⟩) (by first | exact Nat.ne_of_lt (Nat.lt_of_lt_of_le (by have := World.block_lt_of_cell? _ _ hw256_0; first | rwa [add_block] at this | exact this) GW260.out) | (rw [add_block]; exact Nat.ne_of_lt (Nat.lt_of_lt_of_le (by have := World.block_lt_of_cell? _ _ hw256_0; first | rwa [add_block] at this | exact this) GW260.out)) | (show (Addr.add _ _).block ≠ _; rw [add_block]; exact Nat.ne_of_lt (Nat.lt_of_lt_of_le (by have := World.block_lt_of_cell? _ _ hw256_0; first | rwa [add_block] at this | exact this) GW260.out)) | (dsimp only; exact Nat.ne_of_lt (Nat.lt_of_lt_of_le (by have := World.block_lt_of_cell? _ _ hw256_0; first | rwa [add_block] at this | exact this) GW260.out))) _).trans (((cell_far (p := ⟨gb260, _, none⟩) (by first | exact Nat.ne_of_lt (Nat.lt_of_lt_of_le (by have := World.block_lt_of_cell? _ _ hw256_0; first | rwa [add_block] at this | exact this) GW260.out) | (rw [add_block]; exact Nat.ne_of_lt (Nat.lt_of_lt_of_le (by have := World.block_lt_of_cell? _ _ hw256_0; first | rwa [add_block] at this | exact this) GW260.out)) | (show (Addr.add _ _).block ≠ _; rw [add_block]; exact Nat.ne_of_lt (Nat.lt_of_lt_of_le (by have := World.block_lt_of_cell? _ _ hw256_0; first | rwa [add_block] at this | exact this) GW260.out)) | (dsimp only; exact Nat.ne_of_lt (Nat.lt_of_lt_of_le (by have := World.block_lt_of_cell? _ _ hw256_0; first | rwa [add_block] at this | exact this) GW260.out))) _).trans (hHeld.2.2.2.2.2.2.2.2.2.2))))⟩ (fun hHeld => ?_)
                      clear hK K
                      refine pure_ (i := 12) (N := some 12) (v := ?_) (a' := ?_) #[true, true, true, true, true, true, true, true, true, true, true, true, true] rfl rfl (any_of HT_.out (by kernel_rfl)) (fun _ _ _ h => h) (Or.inl ⟨by rfl, ?_⟩) ?_ ?_
                      rotate_left
                      · intro w'
                        go_simp
                        with_reducible rfl
                      rotate_left
                      · simp only [Act.put, List.setIfInBounds_toArray, List.set_cons_zero, List.set_cons_succ, i64_w, i32_w]
                        rfl
                      refine done_ (done_of HT_.out (by kernel_rfl)) ?_
                      have hnb55 := NB260_252.out
                      have hnc55 := NB252_260.out
                      have hnb56 := NB260_253.out
                      have hnc56 := NB253_260.out
                      have hcz57_0 : w52.cell? ⟨gb260, 0, none⟩ = some (.int .i64 0) := (blk_cell BK260.out 0).trans rfl
                      have hcz57_1 : w52.cell? ⟨gb260, 1, none⟩ = some (.int .i64 0) := (blk_cell BK260.out 1).trans rfl
                      have hfz57_0 := blk_frozen BK260.out 0
                      have hfz57_1 := blk_frozen BK260.out 1
                      have hnb58 := NB253_252.out
                      have hnc58 := NB252_253.out
                      have hcz59_0 : w52.cell? ⟨gb253, 0, none⟩ = some (.int .i64 x254000_2) := (blk_cell BK253.out 0).trans rfl
                      have hcz59_1 : w52.cell? ⟨gb253, 1, none⟩ = some (.int .i64 x254001_2) := (blk_cell BK253.out 1).trans rfl
                      have hfz59_0 := blk_frozen BK253.out 0
                      have hfz59_1 := blk_frozen BK253.out 1
                      try go_wp2
                      go_roundg k2
                      case measure => have := HJ5.out; have := HK2.out; omega
                      case rel => exact ⟨((t258 == (ji48))), (wrap64 (x9_2 + 1)), (wrap64 (x10_2 + 1)), (t257), (t258), (by first | rfl | (simp; done) | (simp only [← hji48] <;> (first | rfl | simp)) | (simp [*]; done)), (by first | rfl | (simp; done) | (simp [*]; done)), (by first | rfl | (simp; done) | (simp [*]; done)), H', ⟨by have := HJ5.out; have := HK2.out; omega⟩, ⟨by (with_reducible repeat (first | refine blk_drewN ?_ _ | refine blk_drew ?_ | refine blk_alloc ?_ _)); refine blk_far ?_ NB252_253.out _; (with_reducible repeat (first | refine blk_drewN ?_ _ | refine blk_drew ?_ | refine blk_alloc ?_ _)); refine blk_far ?_ NB252_253.out _; (with_reducible repeat (first | refine blk_drewN ?_ _ | refine blk_drew ?_ | refine blk_alloc ?_ _)); refine blk_far ?_ NB252_260.out _; (with_reducible repeat (first | refine blk_drewN ?_ _ | refine blk_drew ?_ | refine blk_alloc ?_ _)); refine blk_far ?_ NB252_260.out _; (with_reducible repeat (first | refine blk_drewN ?_ _ | refine blk_drew ?_ | refine blk_alloc ?_ _)); exact BK252.out⟩, ⟨by (with_reducible repeat (first | refine blk_drewN ?_ _ | refine blk_drew ?_ | refine blk_alloc ?_ _)); refine blk_put (cs := #[.int .i64 t257, .int .i64 x254001_2]) ?_ 1 _ rfl; (with_reducible repeat (first | refine blk_drewN ?_ _ | refine blk_drew ?_ | refine blk_alloc ?_ _)); refine blk_put (cs := #[.int .i64 x254000_2, .int .i64 x254001_2]) ?_ 0 _ rfl; (with_reducible repeat (first | refine blk_drewN ?_ _ | refine blk_drew ?_ | refine blk_alloc ?_ _)); refine blk_far ?_ NB253_260.out _; (with_reducible repeat (first | refine blk_drewN ?_ _ | refine blk_drew ?_ | refine blk_alloc ?_ _)); refine blk_far ?_ NB253_260.out _; (with_reducible repeat (first | refine blk_drewN ?_ _ | refine blk_drew ?_ | refine blk_alloc ?_ _)); exact BK253.out⟩, ⟨by repeat (first | (with_reducible first | exact HB.out | apply below_alloc | apply pw_below_drewN | apply below_drew1 | refine below_set ?_ GE252.out | refine below_set ?_ GE253.out | refine below_set ?_ GE260.out) | exact HB.out)⟩⟩
                    · replace c47 := Bool.eq_false_iff.mpr c47
                      subst c47
                      have H1 : (chargeparklaw24_RampSince.l0 k2 l2 false (wrap64 (x9_2 + 1)) (wrap64 (x10_2 + 1)) a0_0 a0_1 a0_2 a0_3 a0_4 a0_5 a0_6 a0_7 t257 t258) = some r := by rw [if_neg (show ¬ (false = true) by decide)] at H; exact H
                      clear H
                      have H := H1
                      clear H1
                      have H' := Aside0.mk H
                      clear H
                      try go_wp2
                      have n0_ := Aside0.mk (blk_drew BK252.out)
                      have n1_ := Aside0.mk (blk_drew BK253.out)
                      have n2_ := Aside0.mk (below_drew1 HB.out)
                      clear BK252
                      clear BK253
                      clear HB
                      have BK252 := n0_
                      have BK253 := n1_
                      have HB := n2_
                      clear n0_ n1_ n2_
                      have p256 : 0 ≤ (x10_2 : Int) := of_decide_eq_true (by first | (with_reducible assumption) | assumption)
                      have q256 : x10_2 < (l2.length : Int) := of_decide_eq_true (by first | (with_reducible assumption) | assumption)
                      obtain ⟨ad256, e256, hx256_0⟩ := Kd.at_int HR2.out x10_2 p256 q256
                      have hw256_0 := hx256_0
                      cases e256
                      replace hx256_0 := (HB.out.cell (World.block_lt_of_cell? w _ hx256_0)).trans hx256_0
                      replace p256 := eq_true p256
                      replace q256 := eq_true q256
                      refine start_ (n := 13) (S := fun w' => w'.cell? ⟨gb252, 0, none⟩ = some (.string a0_0) ∧ w'.cell? ⟨gb252, 1, none⟩ = some (.int .i64 a0_1) ∧ w'.cell? ⟨gb252, 2, none⟩ = some (.int .i64 a0_2) ∧ w'.cell? ⟨gb252, 3, none⟩ = some (.int .i64 a0_3) ∧ w'.cell? ⟨gb252, 4, none⟩ = some (.int .i64 a0_4) ∧ w'.cell? ⟨gb252, 5, none⟩ = some (.int .i64 a0_5) ∧ w'.cell? ⟨gb252, 6, none⟩ = some (.int .i64 a0_6) ∧ w'.cell? ⟨gb252, 7, none⟩ = some (.int .i64 a0_7) ∧ w'.cell? ⟨gb253, 0, none⟩ = some (.int .i64 x254000_2) ∧ w'.cell? ⟨gb253, 1, none⟩ = some (.int .i64 x254001_2) ∧ w'.cell? (ad256.add (x10_2).toNat) = some (.int .i64 (rd l2 x10_2))) (ds := []) #[false, false, false, false, false, false, false, false, false, false, false, false, false] (by kernel_rfl) rfl rfl ⟨(blk_cell BK252.out 0).trans rfl, (blk_cell BK252.out 1).trans rfl, (blk_cell BK252.out 2).trans rfl, (blk_cell BK252.out 3).trans rfl, (blk_cell BK252.out 4).trans rfl, (blk_cell BK252.out 5).trans rfl, (blk_cell BK252.out 6).trans rfl, (blk_cell BK252.out 7).trans rfl, (blk_cell BK253.out 0).trans rfl, (blk_cell BK253.out 1).trans rfl, ((HB.out.cell (World.block_lt_of_cell? w _ hw256_0)).trans hw256_0)⟩ (fun hHeld => ?_); refine with_tabW chargeparklaw24_RampSince.tab9 chargeparklaw24_RampSince.bits9 (fun HT_ HW_ => ?_)
                      generalize wr.drew = w60 at BK252 BK253 HB hx256_0 hHeld ⊢
                      refine pure_ (i := 2) (N := some 37) (v := ?_) (a' := ?_) #[false, false, true, false, false, false, false, false, false, false, false, false, false] rfl rfl (any_of HT_.out (by kernel_rfl)) (fun _ _ _ h => h) (Or.inl ⟨by rfl, ?_⟩) ?_ ?_
                      rotate_left
                      · intro w'
                        go_simp
                        with_reducible rfl
                      rotate_left
                      · simp only [Act.put, List.setIfInBounds_toArray, List.set_cons_zero, List.set_cons_succ, i64_w, i32_w]
                        rfl
                      refine pure_ (i := 3) (N := some 38) (v := ?_) (a' := ?_) #[false, false, true, true, false, false, false, false, false, false, false, false, false] rfl rfl (any_of HT_.out (by kernel_rfl)) (fun _ _ _ h => h) (Or.inl ⟨by rfl, ?_⟩) ?_ ?_
                      rotate_left
                      · intro w'
                        go_simp
                        with_reducible rfl
                      rotate_left
                      · simp only [Act.put, List.setIfInBounds_toArray, List.set_cons_zero, List.set_cons_succ, i64_w, i32_w]
                        rfl
                      refine pure_ (i := 4) (N := some 39) (v := ?_) (a' := ?_) #[false, false, true, true, true, false, false, false, false, false, false, false, false] rfl rfl (any_of HT_.out (by kernel_rfl)) (fun _ _ _ h => h) (Or.inl ⟨by rfl, ?_⟩) ?_ ?_
                      rotate_left
                      · intro w'
                        go_simp
                        with_reducible rfl
                      rotate_left
                      · simp only [Act.put, List.setIfInBounds_toArray, List.set_cons_zero, List.set_cons_succ, i64_w, i32_w]
                        rfl
                      refine take_ (i := 0) (N := some 35) (v := ?_) (a' := ?_) #[true, false, true, true, true, false, false, false, false, false, false, false, false] rfl rfl (take_ofW HT_.out HW_.out (by kernel_rfl)) (fun _ _ _ h => h) (Or.inl ⟨by rfl, ?_⟩) hHeld ?_ ?_
                      rotate_left
                      · rintro w' ⟨s0, s1, s2, s3, s4, s5, s6, s7, s8, s9, s10⟩
                        go_simp
                        with_reducible rfl
                      rotate_left
                      · simp only [Act.put, List.setIfInBounds_toArray, List.set_cons_zero, List.set_cons_succ, i64_w, i32_w]
                        rfl
                      refine take_ (i := 1) (N := some 36) (v := ?_) (a' := ?_) #[true, true, true, true, true, false, false, false, false, false, false, false, false] rfl rfl (take_ofW HT_.out HW_.out (by kernel_rfl)) (fun _ _ _ h => h) (Or.inl ⟨by rfl, ?_⟩) hHeld ?_ ?_
                      rotate_left
                      · rintro w' ⟨s0, s1, s2, s3, s4, s5, s6, s7, s8, s9, s10⟩
                        go_simp
                        with_reducible rfl
                      rotate_left
                      · simp only [Act.put, List.setIfInBounds_toArray, List.set_cons_zero, List.set_cons_succ, i64_w, i32_w]
                        rfl
                      refine take_ (i := 5) (N := some 40) (v := ?_) (a' := ?_) #[true, true, true, true, true, true, false, false, false, false, false, false, false] rfl rfl (take_ofW HT_.out HW_.out (by kernel_rfl)) (fun _ _ _ h => h) (Or.inl ⟨by rfl, ?_⟩) hHeld ?_ ?_
                      rotate_left
                      · rintro w' ⟨s0, s1, s2, s3, s4, s5, s6, s7, s8, s9, s10⟩
                        go_simp
                        with_reducible rfl
                      rotate_left
                      · simp only [Act.put, List.setIfInBounds_toArray, List.set_cons_zero, List.set_cons_succ, i64_w, i32_w]
                        rfl
                      refine join_ (σ := Nat) 2 #[true, true, true, true, true, true, true, true, true, true, true, false, false] (fun s_ => [(41, .tuple #[.agg #[.int .i64 t257, .int .i64 t258], .int .i64 t259]), (11, .pointer (some ⟨s_, 0, none⟩)), (34, .tuple #[.agg #[.int .i64 t257, .int .i64 t258], .int .i64 t259]), (42, .agg #[.int .i64 t257, .int .i64 t258]), (43, .int .i64 t259)]) (fun s_ w' => (w'.cell? ⟨gb252, 0, none⟩ = some (.string a0_0) ∧ w'.cell? ⟨gb252, 1, none⟩ = some (.int .i64 a0_1) ∧ w'.cell? ⟨gb252, 2, none⟩ = some (.int .i64 a0_2) ∧ w'.cell? ⟨gb252, 3, none⟩ = some (.int .i64 a0_3) ∧ w'.cell? ⟨gb252, 4, none⟩ = some (.int .i64 a0_4) ∧ w'.cell? ⟨gb252, 5, none⟩ = some (.int .i64 a0_5) ∧ w'.cell? ⟨gb252, 6, none⟩ = some (.int .i64 a0_6) ∧ w'.cell? ⟨gb252, 7, none⟩ = some (.int .i64 a0_7) ∧ w'.cell? ⟨gb253, 0, none⟩ = some (.int .i64 x254000_2) ∧ w'.cell? ⟨gb253, 1, none⟩ = some (.int .i64 x254001_2) ∧ w'.cell? (ad256.add (x10_2).toNat) = some (.int .i64 (rd l2 x10_2))) ∧ (w'.heap[gb252]? = some (.cells #[.string a0_0, .int .i64 a0_1, .int .i64 a0_2, .int .i64 a0_3, .int .i64 a0_4, .int .i64 a0_5, .int .i64 a0_6, .int .i64 a0_7] 23 (0, 0))) ∧ (w'.heap[gb253]? = some (.cells #[.int .i64 x254000_2, .int .i64 x254001_2] 25 (0, 0))) ∧ (w'.heap[s_]? = some (.cells #[.int .i64 0, .int .i64 0] 25 (0, 0))) ∧ (w.heap.size ≤ s_) ∧ (w.heap.size ≤ s_) ∧ (gb252 ≠ s_) ∧ (s_ ≠ gb252) ∧ (gb253 ≠ s_) ∧ (s_ ≠ gb253) ∧ (Below w.heap.size w w')) ?_ ?_
                      rotate_left
                      · intro hCont
                        refine two_ (i := 6) (j := 10) (Ni := some 41) (Nj := some 11) #[true, true, true, true, true, true, true, false, false, false, false, false, false] #[true, true, true, true, true, true, false, false, false, false, true, false, false] rfl rfl rfl rfl (two_of HT_.out (by kernel_rfl)) (by decide) (by decide) (fun K hK => ?_) (fun K hK => ?_)
                        · skip
                          refine goes_ Tryd.func10 (by kernel_rfl) rfl #[.agg #[.string a0_0, .int .i64 a0_1, .int .i64 a0_2, .int .i64 a0_3, .int .i64 a0_4, .int .i64 a0_5, .int .i64 a0_6, .int .i64 a0_7], .agg #[.int .i64 x254000_2, .int .i64 x254001_2], .int .i64 (rd l2 x10_2)] (by rfl) rfl rfl (by (try simp only [List.map_toArray, List.map_cons, List.map_nil]); first | done | rfl | (simp only [List.length_drop, List.length_take]; rfl)) ?_
                          with_reducible refine (ramp_Next.calls a0_0 a0_1 a0_2 a0_3 a0_4 a0_5 a0_6 a0_7 x254000_2 x254001_2 (rd l2 x10_2) t257 t258 t259 _ (hG.below (by repeat (first | (with_reducible first | exact HB.out | apply below_alloc | apply pw_below_drewN | apply below_drew1) | exact HB.out))) A20.out).mono ?_
                          rintro e w61 ⟨rfl, hb⟩
                          refine ⟨_, rfl, ?_⟩
                          have n0_ := Aside0.mk (blk_below (g := gb252) (o := .cells #[.string a0_0, .int .i64 a0_1, .int .i64 a0_2, .int .i64 a0_3, .int .i64 a0_4, .int .i64 a0_5, .int .i64 a0_6, .int .i64 a0_7] 23 (0, 0)) (by (with_reducible repeat (first | refine blk_drewN ?_ _ | refine blk_drew ?_ | refine blk_alloc ?_ _)); exact BK252.out) hb)
                          have n1_ := Aside0.mk (blk_below (g := gb253) (o := .cells #[.int .i64 x254000_2, .int .i64 x254001_2] 25 (0, 0)) (by (with_reducible repeat (first | refine blk_drewN ?_ _ | refine blk_drew ?_ | refine blk_alloc ?_ _)); exact BK253.out) hb)
                          have n2_ := Aside0.mk (below_step (by repeat (first | (with_reducible first | exact HB.out | apply below_alloc | apply pw_below_drewN | apply below_drew1 | refine below_set ?_ GE252.out | refine below_set ?_ GE253.out) | exact HB.out)) hb)
                          clear BK252
                          clear BK253
                          clear HB
                          have BK252 := n0_
                          have BK253 := n1_
                          have HB := n2_
                          clear n0_ n1_ n2_
                          (try clear hb)
                          (try clear hb2)
                          (try clear hk)
                          (try clear hi)
                          refine hK.out _ _ ⟨(blk_cell BK252.out 0).trans rfl, (blk_cell BK252.out 1).trans rfl, (blk_cell BK252.out 2).trans rfl, (blk_cell BK252.out 3).trans rfl, (blk_cell BK252.out 4).trans rfl, (blk_cell BK252.out 5).trans rfl, (blk_cell BK252.out 6).trans rfl, (blk_cell BK252.out 7).trans rfl, (blk_cell BK253.out 0).trans rfl, (blk_cell BK253.out 1).trans rfl, ((HB.out.cell (World.block_lt_of_cell? w _ hw256_0)).trans hw256_0)⟩ (fun hHeld => ?_)
                          clear hK K
                          refine norm_ (a' := ?_) ?_ ?_
                          rotate_left
                          · show Act.put _ (some 41) _ = _
                            simp only [Act.put, List.setIfInBounds_toArray, List.set_cons_zero, List.set_cons_succ, i64_w, i32_w]
                            rfl
                          refine pure_ (i := 7) (N := some 34) (v := ?_) (a' := ?_) #[true, true, true, true, true, true, true, true, false, false, false, false, false] rfl rfl (any_of HT_.out (by kernel_rfl)) (fun _ _ _ h => h) (Or.inl ⟨by rfl, ?_⟩) ?_ ?_
                          rotate_left
                          · intro w'
                            go_simp
                            with_reducible rfl
                          rotate_left
                          · simp only [Act.put, List.setIfInBounds_toArray, List.set_cons_zero, List.set_cons_succ, i64_w, i32_w]
                            rfl
                          refine pure_ (i := 8) (N := some 42) (v := ?_) (a' := ?_) #[true, true, true, true, true, true, true, true, true, false, false, false, false] rfl rfl (any_of HT_.out (by kernel_rfl)) (fun _ _ _ h => h) (Or.inl ⟨by rfl, ?_⟩) ?_ ?_
                          rotate_left
                          · intro w'
                            go_simp
                            with_reducible rfl
                          rotate_left
                          · simp only [Act.put, List.setIfInBounds_toArray, List.set_cons_zero, List.set_cons_succ, i64_w, i32_w]
                            rfl
                          refine pure_ (i := 9) (N := some 43) (v := ?_) (a' := ?_) #[true, true, true, true, true, true, true, true, true, true, false, false, false] rfl rfl (any_of HT_.out (by kernel_rfl)) (fun _ _ _ h => h) (Or.inl ⟨by rfl, ?_⟩) ?_ ?_
                          rotate_left
                          · intro w'
                            go_simp
                            with_reducible rfl
                          rotate_left
                          · simp only [Act.put, List.setIfInBounds_toArray, List.set_cons_zero, List.set_cons_succ, i64_w, i32_w]
                            rfl
                          refine one_ (i := 10) (N := some 11) #[true, true, true, true, true, true, true, true, true, true, true, false, false] rfl rfl (one_of HT_.out (by kernel_rfl)) (by decide) (fun K hK => ?_)
                          refine box_step ?hg (N := 11) ?hd (cs := #[.int .i64 0, .int .i64 0]) (t := 25) ?hr ?_; (case hd => rfl); (case hg => rfl); (case hr => first | (go_simp; done) | (go_simp; rfl))
                          intro gb260 hg w62 hbox hb
                          have n0_ := Aside0.mk (blk_below (g := gb252) (o := .cells #[.string a0_0, .int .i64 a0_1, .int .i64 a0_2, .int .i64 a0_3, .int .i64 a0_4, .int .i64 a0_5, .int .i64 a0_6, .int .i64 a0_7] 23 (0, 0)) (by (with_reducible repeat (first | refine blk_drewN ?_ _ | refine blk_drew ?_ | refine blk_alloc ?_ _)); exact BK252.out) hb)
                          have n1_ := Aside0.mk (blk_below (g := gb253) (o := .cells #[.int .i64 x254000_2, .int .i64 x254001_2] 25 (0, 0)) (by (with_reducible repeat (first | refine blk_drewN ?_ _ | refine blk_drew ?_ | refine blk_alloc ?_ _)); exact BK253.out) hb)
                          have n2_ := Aside0.mk (below_step (by repeat (first | (with_reducible first | exact HB.out | apply below_alloc | apply pw_below_drewN | apply below_drew1 | refine below_set ?_ GE252.out | refine below_set ?_ GE253.out) | exact HB.out)) hb)
                          have n3_ := Aside0.mk (hbox)
                          have n4_ := Aside0.mk ((by rw [hg]; exact (below_size (by repeat (first | (with_reducible first | exact HB.out | apply below_alloc | apply pw_below_drewN | apply below_drew1 | refine below_set ?_ GE252.out | refine below_set ?_ GE253.out) | exact HB.out))) : w.heap.size ≤ gb260))
                          have n5_ := Aside0.mk ((by rw [hg]; exact (below_size (by repeat (first | (with_reducible first | exact HB.out | apply below_alloc | apply pw_below_drewN | apply below_drew1 | refine below_set ?_ GE252.out | refine below_set ?_ GE253.out) | exact HB.out))) : w.heap.size ≤ gb260))
                          have n6_ := Aside0.mk ((by rw [hg]; exact Nat.ne_of_lt (blk_lt (g := gb252) (o := .cells #[.string a0_0, .int .i64 a0_1, .int .i64 a0_2, .int .i64 a0_3, .int .i64 a0_4, .int .i64 a0_5, .int .i64 a0_6, .int .i64 a0_7] 23 (0, 0)) (by (with_reducible repeat (first | refine blk_drewN ?_ _ | refine blk_drew ?_ | refine blk_alloc ?_ _)); exact BK252.out)) : gb252 ≠ gb260))
                          have n7_ := Aside0.mk ((by rw [hg]; exact Nat.ne_of_gt (blk_lt (g := gb252) (o := .cells #[.string a0_0, .int .i64 a0_1, .int .i64 a0_2, .int .i64 a0_3, .int .i64 a0_4, .int .i64 a0_5, .int .i64 a0_6, .int .i64 a0_7] 23 (0, 0)) (by (with_reducible repeat (first | refine blk_drewN ?_ _ | refine blk_drew ?_ | refine blk_alloc ?_ _)); exact BK252.out)) : gb260 ≠ gb252))
                          have n8_ := Aside0.mk ((by rw [hg]; exact Nat.ne_of_lt (blk_lt (g := gb253) (o := .cells #[.int .i64 x254000_2, .int .i64 x254001_2] 25 (0, 0)) (by (with_reducible repeat (first | refine blk_drewN ?_ _ | refine blk_drew ?_ | refine blk_alloc ?_ _)); exact BK253.out)) : gb253 ≠ gb260))
                          have n9_ := Aside0.mk ((by rw [hg]; exact Nat.ne_of_gt (blk_lt (g := gb253) (o := .cells #[.int .i64 x254000_2, .int .i64 x254001_2] 25 (0, 0)) (by (with_reducible repeat (first | refine blk_drewN ?_ _ | refine blk_drew ?_ | refine blk_alloc ?_ _)); exact BK253.out)) : gb260 ≠ gb253))
                          clear BK252
                          clear BK253
                          clear HB
                          have BK252 := n0_
                          have BK253 := n1_
                          have HB := n2_
                          have BK260 := n3_
                          have GW260 := n4_
                          have GE260 := n5_
                          have NB252_260 := n6_
                          have NB260_252 := n7_
                          have NB253_260 := n8_
                          have NB260_253 := n9_
                          clear n0_ n1_ n2_ n3_ n4_ n5_ n6_ n7_ n8_ n9_
                          clear hb hbox hg
                          refine hK.out _ _ ⟨(blk_cell BK252.out 0).trans rfl, (blk_cell BK252.out 1).trans rfl, (blk_cell BK252.out 2).trans rfl, (blk_cell BK252.out 3).trans rfl, (blk_cell BK252.out 4).trans rfl, (blk_cell BK252.out 5).trans rfl, (blk_cell BK252.out 6).trans rfl, (blk_cell BK252.out 7).trans rfl, (blk_cell BK253.out 0).trans rfl, (blk_cell BK253.out 1).trans rfl, ((HB.out.cell (World.block_lt_of_cell? w _ hw256_0)).trans hw256_0)⟩ (fun hHeld => ?_)
                          clear hK K
                          refine norm_ (a' := ?_) ?_ ?_
                          rotate_left
                          · show Act.put _ (some 11) _ = _
                            simp only [Act.put, List.setIfInBounds_toArray, List.set_cons_zero, List.set_cons_succ, i64_w, i32_w]
                            rfl
                          exact norm_ (by simp only [putAll, Act.put, List.setIfInBounds_toArray, List.set_cons_zero, List.set_cons_succ]) (hCont (gb260) _ ⟨hHeld, (by (with_reducible repeat (first | refine blk_drewN ?_ _ | refine blk_drew ?_ | refine blk_alloc ?_ _)); exact BK252.out), (by (with_reducible repeat (first | refine blk_drewN ?_ _ | refine blk_drew ?_ | refine blk_alloc ?_ _)); exact BK253.out), (by (with_reducible repeat (first | refine blk_drewN ?_ _ | refine blk_drew ?_ | refine blk_alloc ?_ _)); exact BK260.out), GW260.out, GE260.out, NB252_260.out, NB260_252.out, NB253_260.out, NB260_253.out, (by repeat (first | (with_reducible first | exact HB.out | apply below_alloc | apply pw_below_drewN | apply below_drew1 | refine below_set ?_ GE252.out | refine below_set ?_ GE253.out | refine below_set ?_ GE260.out) | exact HB.out))⟩)
                        · skip
                          refine box_step ?hg (N := 11) ?hd (cs := #[.int .i64 0, .int .i64 0]) (t := 25) ?hr ?_; (case hd => rfl); (case hg => rfl); (case hr => first | (go_simp; done) | (go_simp; rfl))
                          intro gb260 hg w61 hbox hb
                          have n0_ := Aside0.mk (blk_below (g := gb252) (o := .cells #[.string a0_0, .int .i64 a0_1, .int .i64 a0_2, .int .i64 a0_3, .int .i64 a0_4, .int .i64 a0_5, .int .i64 a0_6, .int .i64 a0_7] 23 (0, 0)) (by (with_reducible repeat (first | refine blk_drewN ?_ _ | refine blk_drew ?_ | refine blk_alloc ?_ _)); exact BK252.out) hb)
                          have n1_ := Aside0.mk (blk_below (g := gb253) (o := .cells #[.int .i64 x254000_2, .int .i64 x254001_2] 25 (0, 0)) (by (with_reducible repeat (first | refine blk_drewN ?_ _ | refine blk_drew ?_ | refine blk_alloc ?_ _)); exact BK253.out) hb)
                          have n2_ := Aside0.mk (below_step (by repeat (first | (with_reducible first | exact HB.out | apply below_alloc | apply pw_below_drewN | apply below_drew1 | refine below_set ?_ GE252.out | refine below_set ?_ GE253.out) | exact HB.out)) hb)
                          have n3_ := Aside0.mk (hbox)
                          have n4_ := Aside0.mk ((by rw [hg]; exact (below_size (by repeat (first | (with_reducible first | exact HB.out | apply below_alloc | apply pw_below_drewN | apply below_drew1 | refine below_set ?_ GE252.out | refine below_set ?_ GE253.out) | exact HB.out))) : w.heap.size ≤ gb260))
                          have n5_ := Aside0.mk ((by rw [hg]; exact (below_size (by repeat (first | (with_reducible first | exact HB.out | apply below_alloc | apply pw_below_drewN | apply below_drew1 | refine below_set ?_ GE252.out | refine below_set ?_ GE253.out) | exact HB.out))) : w.heap.size ≤ gb260))
                          have n6_ := Aside0.mk ((by rw [hg]; exact Nat.ne_of_lt (blk_lt (g := gb252) (o := .cells #[.string a0_0, .int .i64 a0_1, .int .i64 a0_2, .int .i64 a0_3, .int .i64 a0_4, .int .i64 a0_5, .int .i64 a0_6, .int .i64 a0_7] 23 (0, 0)) (by (with_reducible repeat (first | refine blk_drewN ?_ _ | refine blk_drew ?_ | refine blk_alloc ?_ _)); exact BK252.out)) : gb252 ≠ gb260))
                          have n7_ := Aside0.mk ((by rw [hg]; exact Nat.ne_of_gt (blk_lt (g := gb252) (o := .cells #[.string a0_0, .int .i64 a0_1, .int .i64 a0_2, .int .i64 a0_3, .int .i64 a0_4, .int .i64 a0_5, .int .i64 a0_6, .int .i64 a0_7] 23 (0, 0)) (by (with_reducible repeat (first | refine blk_drewN ?_ _ | refine blk_drew ?_ | refine blk_alloc ?_ _)); exact BK252.out)) : gb260 ≠ gb252))
                          have n8_ := Aside0.mk ((by rw [hg]; exact Nat.ne_of_lt (blk_lt (g := gb253) (o := .cells #[.int .i64 x254000_2, .int .i64 x254001_2] 25 (0, 0)) (by (with_reducible repeat (first | refine blk_drewN ?_ _ | refine blk_drew ?_ | refine blk_alloc ?_ _)); exact BK253.out)) : gb253 ≠ gb260))
                          have n9_ := Aside0.mk ((by rw [hg]; exact Nat.ne_of_gt (blk_lt (g := gb253) (o := .cells #[.int .i64 x254000_2, .int .i64 x254001_2] 25 (0, 0)) (by (with_reducible repeat (first | refine blk_drewN ?_ _ | refine blk_drew ?_ | refine blk_alloc ?_ _)); exact BK253.out)) : gb260 ≠ gb253))
                          clear BK252
                          clear BK253
                          clear HB
                          have BK252 := n0_
                          have BK253 := n1_
                          have HB := n2_
                          have BK260 := n3_
                          have GW260 := n4_
                          have GE260 := n5_
                          have NB252_260 := n6_
                          have NB260_252 := n7_
                          have NB253_260 := n8_
                          have NB260_253 := n9_
                          clear n0_ n1_ n2_ n3_ n4_ n5_ n6_ n7_ n8_ n9_
                          clear hb hbox hg
                          refine hK.out _ _ ⟨(blk_cell BK252.out 0).trans rfl, (blk_cell BK252.out 1).trans rfl, (blk_cell BK252.out 2).trans rfl, (blk_cell BK252.out 3).trans rfl, (blk_cell BK252.out 4).trans rfl, (blk_cell BK252.out 5).trans rfl, (blk_cell BK252.out 6).trans rfl, (blk_cell BK252.out 7).trans rfl, (blk_cell BK253.out 0).trans rfl, (blk_cell BK253.out 1).trans rfl, ((HB.out.cell (World.block_lt_of_cell? w _ hw256_0)).trans hw256_0)⟩ (fun hHeld => ?_)
                          clear hK K
                          refine norm_ (a' := ?_) ?_ ?_
                          rotate_left
                          · show Act.put _ (some 11) _ = _
                            simp only [Act.put, List.setIfInBounds_toArray, List.set_cons_zero, List.set_cons_succ, i64_w, i32_w]
                            rfl
                          refine one_ (i := 6) (N := some 41) #[true, true, true, true, true, true, true, false, false, false, true, false, false] rfl rfl (one_of HT_.out (by kernel_rfl)) (by decide) (fun K hK => ?_)
                          refine goes_ Tryd.func10 (by kernel_rfl) rfl #[.agg #[.string a0_0, .int .i64 a0_1, .int .i64 a0_2, .int .i64 a0_3, .int .i64 a0_4, .int .i64 a0_5, .int .i64 a0_6, .int .i64 a0_7], .agg #[.int .i64 x254000_2, .int .i64 x254001_2], .int .i64 (rd l2 x10_2)] (by rfl) rfl rfl (by (try simp only [List.map_toArray, List.map_cons, List.map_nil]); first | done | rfl | (simp only [List.length_drop, List.length_take]; rfl)) ?_
                          with_reducible refine (ramp_Next.calls a0_0 a0_1 a0_2 a0_3 a0_4 a0_5 a0_6 a0_7 x254000_2 x254001_2 (rd l2 x10_2) t257 t258 t259 _ (hG.below (by repeat (first | (with_reducible first | exact HB.out | apply below_alloc | apply pw_below_drewN | apply below_drew1) | exact HB.out))) A20.out).mono ?_
                          rintro e w62 ⟨rfl, hb⟩
                          refine ⟨_, rfl, ?_⟩
                          have n0_ := Aside0.mk (blk_below (g := gb252) (o := .cells #[.string a0_0, .int .i64 a0_1, .int .i64 a0_2, .int .i64 a0_3, .int .i64 a0_4, .int .i64 a0_5, .int .i64 a0_6, .int .i64 a0_7] 23 (0, 0)) (by (with_reducible repeat (first | refine blk_drewN ?_ _ | refine blk_drew ?_ | refine blk_alloc ?_ _)); exact BK252.out) hb)
                          have n1_ := Aside0.mk (blk_below (g := gb253) (o := .cells #[.int .i64 x254000_2, .int .i64 x254001_2] 25 (0, 0)) (by (with_reducible repeat (first | refine blk_drewN ?_ _ | refine blk_drew ?_ | refine blk_alloc ?_ _)); exact BK253.out) hb)
                          have n2_ := Aside0.mk (blk_below (g := gb260) (o := .cells #[.int .i64 0, .int .i64 0] 25 (0, 0)) (by (with_reducible repeat (first | refine blk_drewN ?_ _ | refine blk_drew ?_ | refine blk_alloc ?_ _)); exact BK260.out) hb)
                          have n3_ := Aside0.mk (below_step (by repeat (first | (with_reducible first | exact HB.out | apply below_alloc | apply pw_below_drewN | apply below_drew1 | refine below_set ?_ GE252.out | refine below_set ?_ GE253.out | refine below_set ?_ GE260.out) | exact HB.out)) hb)
                          clear BK252
                          clear BK253
                          clear BK260
                          clear HB
                          have BK252 := n0_
                          have BK253 := n1_
                          have BK260 := n2_
                          have HB := n3_
                          clear n0_ n1_ n2_ n3_
                          (try clear hb)
                          (try clear hb2)
                          (try clear hk)
                          (try clear hi)
                          refine hK.out _ _ ⟨(blk_cell BK252.out 0).trans rfl, (blk_cell BK252.out 1).trans rfl, (blk_cell BK252.out 2).trans rfl, (blk_cell BK252.out 3).trans rfl, (blk_cell BK252.out 4).trans rfl, (blk_cell BK252.out 5).trans rfl, (blk_cell BK252.out 6).trans rfl, (blk_cell BK252.out 7).trans rfl, (blk_cell BK253.out 0).trans rfl, (blk_cell BK253.out 1).trans rfl, ((HB.out.cell (World.block_lt_of_cell? w _ hw256_0)).trans hw256_0)⟩ (fun hHeld => ?_)
                          clear hK K
                          refine norm_ (a' := ?_) ?_ ?_
                          rotate_left
                          · show Act.put _ (some 41) _ = _
                            simp only [Act.put, List.setIfInBounds_toArray, List.set_cons_zero, List.set_cons_succ, i64_w, i32_w]
                            rfl
                          refine pure_ (i := 7) (N := some 34) (v := ?_) (a' := ?_) #[true, true, true, true, true, true, true, true, false, false, true, false, false] rfl rfl (any_of HT_.out (by kernel_rfl)) (fun _ _ _ h => h) (Or.inl ⟨by rfl, ?_⟩) ?_ ?_
                          rotate_left
                          · intro w'
                            go_simp
                            with_reducible rfl
                          rotate_left
                          · simp only [Act.put, List.setIfInBounds_toArray, List.set_cons_zero, List.set_cons_succ, i64_w, i32_w]
                            rfl
                          refine pure_ (i := 8) (N := some 42) (v := ?_) (a' := ?_) #[true, true, true, true, true, true, true, true, true, false, true, false, false] rfl rfl (any_of HT_.out (by kernel_rfl)) (fun _ _ _ h => h) (Or.inl ⟨by rfl, ?_⟩) ?_ ?_
                          rotate_left
                          · intro w'
                            go_simp
                            with_reducible rfl
                          rotate_left
                          · simp only [Act.put, List.setIfInBounds_toArray, List.set_cons_zero, List.set_cons_succ, i64_w, i32_w]
                            rfl
                          refine pure_ (i := 9) (N := some 43) (v := ?_) (a' := ?_) #[true, true, true, true, true, true, true, true, true, true, true, false, false] rfl rfl (any_of HT_.out (by kernel_rfl)) (fun _ _ _ h => h) (Or.inl ⟨by rfl, ?_⟩) ?_ ?_
                          rotate_left
                          · intro w'
                            go_simp
                            with_reducible rfl
                          rotate_left
                          · simp only [Act.put, List.setIfInBounds_toArray, List.set_cons_zero, List.set_cons_succ, i64_w, i32_w]
                            rfl
                          exact norm_ (by simp only [putAll, Act.put, List.setIfInBounds_toArray, List.set_cons_zero, List.set_cons_succ]) (hCont (gb260) _ ⟨hHeld, (by (with_reducible repeat (first | refine blk_drewN ?_ _ | refine blk_drew ?_ | refine blk_alloc ?_ _)); exact BK252.out), (by (with_reducible repeat (first | refine blk_drewN ?_ _ | refine blk_drew ?_ | refine blk_alloc ?_ _)); exact BK253.out), (by (with_reducible repeat (first | refine blk_drewN ?_ _ | refine blk_drew ?_ | refine blk_alloc ?_ _)); exact BK260.out), GW260.out, GE260.out, NB252_260.out, NB260_252.out, NB253_260.out, NB260_253.out, (by repeat (first | (with_reducible first | exact HB.out | apply below_alloc | apply pw_below_drewN | apply below_drew1 | refine below_set ?_ GE252.out | refine below_set ?_ GE253.out | refine below_set ?_ GE260.out) | exact HB.out))⟩)
                      rintro gb260 w63 ⟨hS_, h0_, h1_, h2_, h3_, h4_, h5_, h6_, h7_, h8_, h9_⟩
                      have n0_ : Aside0 (w63.heap[gb252]? = some (.cells #[.string a0_0, .int .i64 a0_1, .int .i64 a0_2, .int .i64 a0_3, .int .i64 a0_4, .int .i64 a0_5, .int .i64 a0_6, .int .i64 a0_7] 23 (0, 0))) := ⟨h0_⟩
                      have n1_ : Aside0 (w63.heap[gb253]? = some (.cells #[.int .i64 x254000_2, .int .i64 x254001_2] 25 (0, 0))) := ⟨h1_⟩
                      have n2_ : Aside0 (w63.heap[gb260]? = some (.cells #[.int .i64 0, .int .i64 0] 25 (0, 0))) := ⟨h2_⟩
                      have n3_ : Aside0 (w.heap.size ≤ gb260) := ⟨h3_⟩
                      have n4_ : Aside0 (w.heap.size ≤ gb260) := ⟨h4_⟩
                      have n5_ : Aside0 (gb252 ≠ gb260) := ⟨h5_⟩
                      have n6_ : Aside0 (gb260 ≠ gb252) := ⟨h6_⟩
                      have n7_ : Aside0 (gb253 ≠ gb260) := ⟨h7_⟩
                      have n8_ : Aside0 (gb260 ≠ gb253) := ⟨h8_⟩
                      have n9_ : Aside0 (Below w.heap.size w w63) := ⟨h9_⟩
                      clear BK252
                      clear BK253
                      clear HB
                      clear h0_ h1_ h2_ h3_ h4_ h5_ h6_ h7_ h8_ h9_
                      have BK252 := n0_
                      have BK253 := n1_
                      have BK260 := n2_
                      have GW260 := n3_
                      have GE260 := n4_
                      have NB252_260 := n5_
                      have NB260_252 := n6_
                      have NB253_260 := n7_
                      have NB260_253 := n8_
                      have HB := n9_
                      clear n0_ n1_ n2_ n3_ n4_ n5_ n6_ n7_ n8_ n9_
                      have hHeld : w63.cell? ⟨gb252, 0, none⟩ = some (.string a0_0) ∧ w63.cell? ⟨gb252, 1, none⟩ = some (.int .i64 a0_1) ∧ w63.cell? ⟨gb252, 2, none⟩ = some (.int .i64 a0_2) ∧ w63.cell? ⟨gb252, 3, none⟩ = some (.int .i64 a0_3) ∧ w63.cell? ⟨gb252, 4, none⟩ = some (.int .i64 a0_4) ∧ w63.cell? ⟨gb252, 5, none⟩ = some (.int .i64 a0_5) ∧ w63.cell? ⟨gb252, 6, none⟩ = some (.int .i64 a0_6) ∧ w63.cell? ⟨gb252, 7, none⟩ = some (.int .i64 a0_7) ∧ w63.cell? ⟨gb253, 0, none⟩ = some (.int .i64 x254000_2) ∧ w63.cell? ⟨gb253, 1, none⟩ = some (.int .i64 x254001_2) ∧ w63.cell? (ad256.add (x10_2).toNat) = some (.int .i64 (rd l2 x10_2)) := hS_
                      refine norm_ (a' := ?_) ?_ ?_
                      rotate_left
                      · simp only [putAll, Act.put, List.setIfInBounds_toArray, List.set_cons_zero, List.set_cons_succ]
                        rfl
                      refine one_ (i := 11) (N := none) #[true, true, true, true, true, true, true, true, true, true, true, true, false] rfl rfl (one_of HT_.out (by kernel_rfl)) (by decide) (fun K hK => ?_)
                      have hs64 : w63.cell? ⟨gb260, 0, none⟩ = some (.int .i64 0) := (blk_cell BK260.out 0).trans rfl
                      have hfs64 := blk_frozen BK260.out 0
                      have hns64_0 := NB252_260.out
                      have hns64_1 := NB253_260.out
                      have hms64_0 := NB260_252.out
                      have hms64_1 := NB260_253.out
                      have hs65 : w63.cell? ⟨gb260, 1, none⟩ = some (.int .i64 0) := (blk_cell BK260.out 1).trans rfl
                      have hfs65 := blk_frozen BK260.out 1
                      have hns65_0 := NB252_260.out
                      have hns65_1 := NB253_260.out
                      have hms65_0 := NB260_252.out
                      have hms65_1 := NB260_253.out
                      refine skip_ (w1 := ?_) (by rfl) rfl ?_ ?_
                      rotate_left
                      · go_simp
                        rfl
                      refine hK.out _ _ ⟨((cell_far (p := ⟨gb260, _, none⟩) NB252_260.out _).trans (((cell_far (p := ⟨gb260, _, none⟩) NB252_260.out _).trans (hHeld.1)))), ((cell_far (p := ⟨gb260, _, none⟩) NB252_260.out _).trans (((cell_far (p := ⟨gb260, _, none⟩) NB252_260.out _).trans (hHeld.2.1)))), ((cell_far (p := ⟨gb260, _, none⟩) NB252_260.out _).trans (((cell_far (p := ⟨gb260, _, none⟩) NB252_260.out _).trans (hHeld.2.2.1)))), ((cell_far (p := ⟨gb260, _, none⟩) NB252_260.out _).trans (((cell_far (p := ⟨gb260, _, none⟩) NB252_260.out _).trans (hHeld.2.2.2.1)))), ((cell_far (p := ⟨gb260, _, none⟩) NB252_260.out _).trans (((cell_far (p := ⟨gb260, _, none⟩) NB252_260.out _).trans (hHeld.2.2.2.2.1)))), ((cell_far (p := ⟨gb260, _, none⟩) NB252_260.out _).trans (((cell_far (p := ⟨gb260, _, none⟩) NB252_260.out _).trans (hHeld.2.2.2.2.2.1)))), ((cell_far (p := ⟨gb260, _, none⟩) NB252_260.out _).trans (((cell_far (p := ⟨gb260, _, none⟩) NB252_260.out _).trans (hHeld.2.2.2.2.2.2.1)))), ((cell_far (p := ⟨gb260, _, none⟩) NB252_260.out _).trans (((cell_far (p := ⟨gb260, _, none⟩) NB252_260.out _).trans (hHeld.2.2.2.2.2.2.2.1)))), ((cell_far (p := ⟨gb260, _, none⟩) NB253_260.out _).trans (((cell_far (p := ⟨gb260, _, none⟩) NB253_260.out _).trans (hHeld.2.2.2.2.2.2.2.2.1)))), ((cell_far (p := ⟨gb260, _, none⟩) NB253_260.out _).trans (((cell_far (p := ⟨gb260, _, none⟩) NB253_260.out _).trans (hHeld.2.2.2.2.2.2.2.2.2.1)))), ((cell_far (p := ⟨gb260, _, none⟩) (by first | exact Nat.ne_of_lt (Nat.lt_of_lt_of_le (by have := World.block_lt_of_cell? _ _ hw256_0; first | rwa [add_block] at this | exact this) GW260.out) | (rw [add_block]; exact Nat.ne_of_lt (Nat.lt_of_lt_of_le (by have := World.block_lt_of_cell? _ _ hw256_0; first | rwa [add_block] at this | exact this) GW260.out)) | (show (Addr.add _ _).block ≠ _; rw [add_block]; exact Nat.ne_of_lt (Nat.lt_of_lt_of_le (by have := World.block_lt_of_cell? _ _ hw256_0; first | rwa [add_block] at this | exact this) GW260.out)) | (dsimp only; exact Nat.ne_of_lt (Nat.lt_of_lt_of_le (by have := World.block_lt_of_cell? _ _ hw256_0; first | rwa [add_block] at this | exact this) GW260.out))) _).trans (((cell_far (p := ⟨gb260, _, none⟩) (by first | exact Nat.ne_of_lt (Nat.lt_of_lt_of_le (by have := World.block_lt_of_cell? _ _ hw256_0; first | rwa [add_block] at this | exact this) GW260.out) | (rw [add_block]; exact Nat.ne_of_lt (Nat.lt_of_lt_of_le (by have := World.block_lt_of_cell? _ _ hw256_0; first | rwa [add_block] at this | exact this) GW260.out)) | (show (Addr.add _ _).block ≠ _; rw [add_block]; exact Nat.ne_of_lt (Nat.lt_of_lt_of_le (by have := World.block_lt_of_cell? _ _ hw256_0; first | rwa [add_block] at this | exact this) GW260.out)) | (dsimp only; exact Nat.ne_of_lt (Nat.lt_of_lt_of_le (by have := World.block_lt_of_cell? _ _ hw256_0; first | rwa [add_block] at this | exact this) GW260.out))) _).trans (hHeld.2.2.2.2.2.2.2.2.2.2))))⟩ (fun hHeld => ?_)
                      clear hK K
                      refine pure_ (i := 12) (N := some 12) (v := ?_) (a' := ?_) #[true, true, true, true, true, true, true, true, true, true, true, true, true] rfl rfl (any_of HT_.out (by kernel_rfl)) (fun _ _ _ h => h) (Or.inl ⟨by rfl, ?_⟩) ?_ ?_
                      rotate_left
                      · intro w'
                        go_simp
                        with_reducible rfl
                      rotate_left
                      · simp only [Act.put, List.setIfInBounds_toArray, List.set_cons_zero, List.set_cons_succ, i64_w, i32_w]
                        rfl
                      refine done_ (done_of HT_.out (by kernel_rfl)) ?_
                      have hnb66 := NB260_252.out
                      have hnc66 := NB252_260.out
                      have hnb67 := NB260_253.out
                      have hnc67 := NB253_260.out
                      have hcz68_0 : w63.cell? ⟨gb260, 0, none⟩ = some (.int .i64 0) := (blk_cell BK260.out 0).trans rfl
                      have hcz68_1 : w63.cell? ⟨gb260, 1, none⟩ = some (.int .i64 0) := (blk_cell BK260.out 1).trans rfl
                      have hfz68_0 := blk_frozen BK260.out 0
                      have hfz68_1 := blk_frozen BK260.out 1
                      have hnb69 := NB253_252.out
                      have hnc69 := NB252_253.out
                      have hcz70_0 : w63.cell? ⟨gb253, 0, none⟩ = some (.int .i64 x254000_2) := (blk_cell BK253.out 0).trans rfl
                      have hcz70_1 : w63.cell? ⟨gb253, 1, none⟩ = some (.int .i64 x254001_2) := (blk_cell BK253.out 1).trans rfl
                      have hfz70_0 := blk_frozen BK253.out 0
                      have hfz70_1 := blk_frozen BK253.out 1
                      try go_wp2
                      go_roundg k2
                      case measure => have := HJ5.out; have := HK2.out; omega
                      case rel => exact ⟨(false), (wrap64 (x9_2 + 1)), (wrap64 (x10_2 + 1)), (t257), (t258), (by first | rfl | (simp; done) | (simp [*]; done)), (by first | rfl | (simp; done) | (simp [*]; done)), (by first | rfl | (simp; done) | (simp [*]; done)), H', ⟨by have := HJ5.out; have := HK2.out; omega⟩, ⟨by (with_reducible repeat (first | refine blk_drewN ?_ _ | refine blk_drew ?_ | refine blk_alloc ?_ _)); refine blk_far ?_ NB252_253.out _; (with_reducible repeat (first | refine blk_drewN ?_ _ | refine blk_drew ?_ | refine blk_alloc ?_ _)); refine blk_far ?_ NB252_253.out _; (with_reducible repeat (first | refine blk_drewN ?_ _ | refine blk_drew ?_ | refine blk_alloc ?_ _)); refine blk_far ?_ NB252_260.out _; (with_reducible repeat (first | refine blk_drewN ?_ _ | refine blk_drew ?_ | refine blk_alloc ?_ _)); refine blk_far ?_ NB252_260.out _; (with_reducible repeat (first | refine blk_drewN ?_ _ | refine blk_drew ?_ | refine blk_alloc ?_ _)); exact BK252.out⟩, ⟨by (with_reducible repeat (first | refine blk_drewN ?_ _ | refine blk_drew ?_ | refine blk_alloc ?_ _)); refine blk_put (cs := #[.int .i64 t257, .int .i64 x254001_2]) ?_ 1 _ rfl; (with_reducible repeat (first | refine blk_drewN ?_ _ | refine blk_drew ?_ | refine blk_alloc ?_ _)); refine blk_put (cs := #[.int .i64 x254000_2, .int .i64 x254001_2]) ?_ 0 _ rfl; (with_reducible repeat (first | refine blk_drewN ?_ _ | refine blk_drew ?_ | refine blk_alloc ?_ _)); refine blk_far ?_ NB253_260.out _; (with_reducible repeat (first | refine blk_drewN ?_ _ | refine blk_drew ?_ | refine blk_alloc ?_ _)); refine blk_far ?_ NB253_260.out _; (with_reducible repeat (first | refine blk_drewN ?_ _ | refine blk_drew ?_ | refine blk_alloc ?_ _)); exact BK253.out⟩, ⟨by repeat (first | (with_reducible first | exact HB.out | apply below_alloc | apply pw_below_drewN | apply below_drew1 | refine below_set ?_ GE252.out | refine below_set ?_ GE253.out | refine below_set ?_ GE260.out) | exact HB.out)⟩⟩
                · rw [if_neg c21] at H
                  have c21b0 : (t259 == 0) = false := beq_eq_false_iff_ne.mpr c21
                  have c21b1 : (t259 != 0) = true := bne_iff_ne.mpr c21
                  have H' := Aside0.mk H
                  clear H
                  try go_wp2
                  have n0_ := Aside0.mk (blk_drew BK252.out)
                  have n1_ := Aside0.mk (blk_drew BK253.out)
                  have n2_ := Aside0.mk (below_drew1 HB.out)
                  clear BK252
                  clear BK253
                  clear HB
                  have BK252 := n0_
                  have BK253 := n1_
                  have HB := n2_
                  clear n0_ n1_ n2_
                  have p256 : 0 ≤ (x10_2 : Int) := of_decide_eq_true (by first | (with_reducible assumption) | assumption)
                  have q256 : x10_2 < (l2.length : Int) := of_decide_eq_true (by first | (with_reducible assumption) | assumption)
                  obtain ⟨ad256, e256, hx256_0⟩ := Kd.at_int HR2.out x10_2 p256 q256
                  have hw256_0 := hx256_0
                  cases e256
                  replace hx256_0 := (HB.out.cell (World.block_lt_of_cell? w _ hx256_0)).trans hx256_0
                  replace p256 := eq_true p256
                  replace q256 := eq_true q256
                  refine start_ (n := 13) (S := fun w' => w'.cell? ⟨gb252, 0, none⟩ = some (.string a0_0) ∧ w'.cell? ⟨gb252, 1, none⟩ = some (.int .i64 a0_1) ∧ w'.cell? ⟨gb252, 2, none⟩ = some (.int .i64 a0_2) ∧ w'.cell? ⟨gb252, 3, none⟩ = some (.int .i64 a0_3) ∧ w'.cell? ⟨gb252, 4, none⟩ = some (.int .i64 a0_4) ∧ w'.cell? ⟨gb252, 5, none⟩ = some (.int .i64 a0_5) ∧ w'.cell? ⟨gb252, 6, none⟩ = some (.int .i64 a0_6) ∧ w'.cell? ⟨gb252, 7, none⟩ = some (.int .i64 a0_7) ∧ w'.cell? ⟨gb253, 0, none⟩ = some (.int .i64 x254000_2) ∧ w'.cell? ⟨gb253, 1, none⟩ = some (.int .i64 x254001_2) ∧ w'.cell? (ad256.add (x10_2).toNat) = some (.int .i64 (rd l2 x10_2))) (ds := []) #[false, false, false, false, false, false, false, false, false, false, false, false, false] (by kernel_rfl) rfl rfl ⟨(blk_cell BK252.out 0).trans rfl, (blk_cell BK252.out 1).trans rfl, (blk_cell BK252.out 2).trans rfl, (blk_cell BK252.out 3).trans rfl, (blk_cell BK252.out 4).trans rfl, (blk_cell BK252.out 5).trans rfl, (blk_cell BK252.out 6).trans rfl, (blk_cell BK252.out 7).trans rfl, (blk_cell BK253.out 0).trans rfl, (blk_cell BK253.out 1).trans rfl, ((HB.out.cell (World.block_lt_of_cell? w _ hw256_0)).trans hw256_0)⟩ (fun hHeld => ?_); refine with_tabW chargeparklaw24_RampSince.tab9 chargeparklaw24_RampSince.bits9 (fun HT_ HW_ => ?_)
                  generalize wr.drew = w71 at BK252 BK253 HB hx256_0 hHeld ⊢
                  refine pure_ (i := 2) (N := some 37) (v := ?_) (a' := ?_) #[false, false, true, false, false, false, false, false, false, false, false, false, false] rfl rfl (any_of HT_.out (by kernel_rfl)) (fun _ _ _ h => h) (Or.inl ⟨by rfl, ?_⟩) ?_ ?_
                  rotate_left
                  · intro w'
                    go_simp
                    with_reducible rfl
                  rotate_left
                  · simp only [Act.put, List.setIfInBounds_toArray, List.set_cons_zero, List.set_cons_succ, i64_w, i32_w]
                    rfl
                  refine pure_ (i := 3) (N := some 38) (v := ?_) (a' := ?_) #[false, false, true, true, false, false, false, false, false, false, false, false, false] rfl rfl (any_of HT_.out (by kernel_rfl)) (fun _ _ _ h => h) (Or.inl ⟨by rfl, ?_⟩) ?_ ?_
                  rotate_left
                  · intro w'
                    go_simp
                    with_reducible rfl
                  rotate_left
                  · simp only [Act.put, List.setIfInBounds_toArray, List.set_cons_zero, List.set_cons_succ, i64_w, i32_w]
                    rfl
                  refine pure_ (i := 4) (N := some 39) (v := ?_) (a' := ?_) #[false, false, true, true, true, false, false, false, false, false, false, false, false] rfl rfl (any_of HT_.out (by kernel_rfl)) (fun _ _ _ h => h) (Or.inl ⟨by rfl, ?_⟩) ?_ ?_
                  rotate_left
                  · intro w'
                    go_simp
                    with_reducible rfl
                  rotate_left
                  · simp only [Act.put, List.setIfInBounds_toArray, List.set_cons_zero, List.set_cons_succ, i64_w, i32_w]
                    rfl
                  refine take_ (i := 0) (N := some 35) (v := ?_) (a' := ?_) #[true, false, true, true, true, false, false, false, false, false, false, false, false] rfl rfl (take_ofW HT_.out HW_.out (by kernel_rfl)) (fun _ _ _ h => h) (Or.inl ⟨by rfl, ?_⟩) hHeld ?_ ?_
                  rotate_left
                  · rintro w' ⟨s0, s1, s2, s3, s4, s5, s6, s7, s8, s9, s10⟩
                    go_simp
                    with_reducible rfl
                  rotate_left
                  · simp only [Act.put, List.setIfInBounds_toArray, List.set_cons_zero, List.set_cons_succ, i64_w, i32_w]
                    rfl
                  refine take_ (i := 1) (N := some 36) (v := ?_) (a' := ?_) #[true, true, true, true, true, false, false, false, false, false, false, false, false] rfl rfl (take_ofW HT_.out HW_.out (by kernel_rfl)) (fun _ _ _ h => h) (Or.inl ⟨by rfl, ?_⟩) hHeld ?_ ?_
                  rotate_left
                  · rintro w' ⟨s0, s1, s2, s3, s4, s5, s6, s7, s8, s9, s10⟩
                    go_simp
                    with_reducible rfl
                  rotate_left
                  · simp only [Act.put, List.setIfInBounds_toArray, List.set_cons_zero, List.set_cons_succ, i64_w, i32_w]
                    rfl
                  refine take_ (i := 5) (N := some 40) (v := ?_) (a' := ?_) #[true, true, true, true, true, true, false, false, false, false, false, false, false] rfl rfl (take_ofW HT_.out HW_.out (by kernel_rfl)) (fun _ _ _ h => h) (Or.inl ⟨by rfl, ?_⟩) hHeld ?_ ?_
                  rotate_left
                  · rintro w' ⟨s0, s1, s2, s3, s4, s5, s6, s7, s8, s9, s10⟩
                    go_simp
                    with_reducible rfl
                  rotate_left
                  · simp only [Act.put, List.setIfInBounds_toArray, List.set_cons_zero, List.set_cons_succ, i64_w, i32_w]
                    rfl
                  refine join_ (σ := Nat) 2 #[true, true, true, true, true, true, true, true, true, true, true, false, false] (fun s_ => [(41, .tuple #[.agg #[.int .i64 t257, .int .i64 t258], .int .i64 t259]), (11, .pointer (some ⟨s_, 0, none⟩)), (34, .tuple #[.agg #[.int .i64 t257, .int .i64 t258], .int .i64 t259]), (42, .agg #[.int .i64 t257, .int .i64 t258]), (43, .int .i64 t259)]) (fun s_ w' => (w'.cell? ⟨gb252, 0, none⟩ = some (.string a0_0) ∧ w'.cell? ⟨gb252, 1, none⟩ = some (.int .i64 a0_1) ∧ w'.cell? ⟨gb252, 2, none⟩ = some (.int .i64 a0_2) ∧ w'.cell? ⟨gb252, 3, none⟩ = some (.int .i64 a0_3) ∧ w'.cell? ⟨gb252, 4, none⟩ = some (.int .i64 a0_4) ∧ w'.cell? ⟨gb252, 5, none⟩ = some (.int .i64 a0_5) ∧ w'.cell? ⟨gb252, 6, none⟩ = some (.int .i64 a0_6) ∧ w'.cell? ⟨gb252, 7, none⟩ = some (.int .i64 a0_7) ∧ w'.cell? ⟨gb253, 0, none⟩ = some (.int .i64 x254000_2) ∧ w'.cell? ⟨gb253, 1, none⟩ = some (.int .i64 x254001_2) ∧ w'.cell? (ad256.add (x10_2).toNat) = some (.int .i64 (rd l2 x10_2))) ∧ (w'.heap[gb252]? = some (.cells #[.string a0_0, .int .i64 a0_1, .int .i64 a0_2, .int .i64 a0_3, .int .i64 a0_4, .int .i64 a0_5, .int .i64 a0_6, .int .i64 a0_7] 23 (0, 0))) ∧ (w'.heap[gb253]? = some (.cells #[.int .i64 x254000_2, .int .i64 x254001_2] 25 (0, 0))) ∧ (w'.heap[s_]? = some (.cells #[.int .i64 0, .int .i64 0] 25 (0, 0))) ∧ (w.heap.size ≤ s_) ∧ (w.heap.size ≤ s_) ∧ (gb252 ≠ s_) ∧ (s_ ≠ gb252) ∧ (gb253 ≠ s_) ∧ (s_ ≠ gb253) ∧ (Below w.heap.size w w')) ?_ ?_
                  rotate_left
                  · intro hCont
                    refine two_ (i := 6) (j := 10) (Ni := some 41) (Nj := some 11) #[true, true, true, true, true, true, true, false, false, false, false, false, false] #[true, true, true, true, true, true, false, false, false, false, true, false, false] rfl rfl rfl rfl (two_of HT_.out (by kernel_rfl)) (by decide) (by decide) (fun K hK => ?_) (fun K hK => ?_)
                    · skip
                      refine goes_ Tryd.func10 (by kernel_rfl) rfl #[.agg #[.string a0_0, .int .i64 a0_1, .int .i64 a0_2, .int .i64 a0_3, .int .i64 a0_4, .int .i64 a0_5, .int .i64 a0_6, .int .i64 a0_7], .agg #[.int .i64 x254000_2, .int .i64 x254001_2], .int .i64 (rd l2 x10_2)] (by rfl) rfl rfl (by (try simp only [List.map_toArray, List.map_cons, List.map_nil]); first | done | rfl | (simp only [List.length_drop, List.length_take]; rfl)) ?_
                      with_reducible refine (ramp_Next.calls a0_0 a0_1 a0_2 a0_3 a0_4 a0_5 a0_6 a0_7 x254000_2 x254001_2 (rd l2 x10_2) t257 t258 t259 _ (hG.below (by repeat (first | (with_reducible first | exact HB.out | apply below_alloc | apply pw_below_drewN | apply below_drew1) | exact HB.out))) A20.out).mono ?_
                      rintro e w72 ⟨rfl, hb⟩
                      refine ⟨_, rfl, ?_⟩
                      have n0_ := Aside0.mk (blk_below (g := gb252) (o := .cells #[.string a0_0, .int .i64 a0_1, .int .i64 a0_2, .int .i64 a0_3, .int .i64 a0_4, .int .i64 a0_5, .int .i64 a0_6, .int .i64 a0_7] 23 (0, 0)) (by (with_reducible repeat (first | refine blk_drewN ?_ _ | refine blk_drew ?_ | refine blk_alloc ?_ _)); exact BK252.out) hb)
                      have n1_ := Aside0.mk (blk_below (g := gb253) (o := .cells #[.int .i64 x254000_2, .int .i64 x254001_2] 25 (0, 0)) (by (with_reducible repeat (first | refine blk_drewN ?_ _ | refine blk_drew ?_ | refine blk_alloc ?_ _)); exact BK253.out) hb)
                      have n2_ := Aside0.mk (below_step (by repeat (first | (with_reducible first | exact HB.out | apply below_alloc | apply pw_below_drewN | apply below_drew1 | refine below_set ?_ GE252.out | refine below_set ?_ GE253.out) | exact HB.out)) hb)
                      clear BK252
                      clear BK253
                      clear HB
                      have BK252 := n0_
                      have BK253 := n1_
                      have HB := n2_
                      clear n0_ n1_ n2_
                      (try clear hb)
                      (try clear hb2)
                      (try clear hk)
                      (try clear hi)
                      refine hK.out _ _ ⟨(blk_cell BK252.out 0).trans rfl, (blk_cell BK252.out 1).trans rfl, (blk_cell BK252.out 2).trans rfl, (blk_cell BK252.out 3).trans rfl, (blk_cell BK252.out 4).trans rfl, (blk_cell BK252.out 5).trans rfl, (blk_cell BK252.out 6).trans rfl, (blk_cell BK252.out 7).trans rfl, (blk_cell BK253.out 0).trans rfl, (blk_cell BK253.out 1).trans rfl, ((HB.out.cell (World.block_lt_of_cell? w _ hw256_0)).trans hw256_0)⟩ (fun hHeld => ?_)
                      clear hK K
                      refine norm_ (a' := ?_) ?_ ?_
                      rotate_left
                      · show Act.put _ (some 41) _ = _
                        simp only [Act.put, List.setIfInBounds_toArray, List.set_cons_zero, List.set_cons_succ, i64_w, i32_w]
                        rfl
                      refine pure_ (i := 7) (N := some 34) (v := ?_) (a' := ?_) #[true, true, true, true, true, true, true, true, false, false, false, false, false] rfl rfl (any_of HT_.out (by kernel_rfl)) (fun _ _ _ h => h) (Or.inl ⟨by rfl, ?_⟩) ?_ ?_
                      rotate_left
                      · intro w'
                        go_simp
                        with_reducible rfl
                      rotate_left
                      · simp only [Act.put, List.setIfInBounds_toArray, List.set_cons_zero, List.set_cons_succ, i64_w, i32_w]
                        rfl
                      refine pure_ (i := 8) (N := some 42) (v := ?_) (a' := ?_) #[true, true, true, true, true, true, true, true, true, false, false, false, false] rfl rfl (any_of HT_.out (by kernel_rfl)) (fun _ _ _ h => h) (Or.inl ⟨by rfl, ?_⟩) ?_ ?_
                      rotate_left
                      · intro w'
                        go_simp
                        with_reducible rfl
                      rotate_left
                      · simp only [Act.put, List.setIfInBounds_toArray, List.set_cons_zero, List.set_cons_succ, i64_w, i32_w]
                        rfl
                      refine pure_ (i := 9) (N := some 43) (v := ?_) (a' := ?_) #[true, true, true, true, true, true, true, true, true, true, false, false, false] rfl rfl (any_of HT_.out (by kernel_rfl)) (fun _ _ _ h => h) (Or.inl ⟨by rfl, ?_⟩) ?_ ?_
                      rotate_left
                      · intro w'
                        go_simp
                        with_reducible rfl
                      rotate_left
                      · simp only [Act.put, List.setIfInBounds_toArray, List.set_cons_zero, List.set_cons_succ, i64_w, i32_w]
                        rfl
                      refine one_ (i := 10) (N := some 11) #[true, true, true, true, true, true, true, true, true, true, true, false, false] rfl rfl (one_of HT_.out (by kernel_rfl)) (by decide) (fun K hK => ?_)
                      refine box_step ?hg (N := 11) ?hd (cs := #[.int .i64 0, .int .i64 0]) (t := 25) ?hr ?_; (case hd => rfl); (case hg => rfl); (case hr => first | (go_simp; done) | (go_simp; rfl))
                      intro gb260 hg w73 hbox hb
                      have n0_ := Aside0.mk (blk_below (g := gb252) (o := .cells #[.string a0_0, .int .i64 a0_1, .int .i64 a0_2, .int .i64 a0_3, .int .i64 a0_4, .int .i64 a0_5, .int .i64 a0_6, .int .i64 a0_7] 23 (0, 0)) (by (with_reducible repeat (first | refine blk_drewN ?_ _ | refine blk_drew ?_ | refine blk_alloc ?_ _)); exact BK252.out) hb)
                      have n1_ := Aside0.mk (blk_below (g := gb253) (o := .cells #[.int .i64 x254000_2, .int .i64 x254001_2] 25 (0, 0)) (by (with_reducible repeat (first | refine blk_drewN ?_ _ | refine blk_drew ?_ | refine blk_alloc ?_ _)); exact BK253.out) hb)
                      have n2_ := Aside0.mk (below_step (by repeat (first | (with_reducible first | exact HB.out | apply below_alloc | apply pw_below_drewN | apply below_drew1 | refine below_set ?_ GE252.out | refine below_set ?_ GE253.out) | exact HB.out)) hb)
                      have n3_ := Aside0.mk (hbox)
                      have n4_ := Aside0.mk ((by rw [hg]; exact (below_size (by repeat (first | (with_reducible first | exact HB.out | apply below_alloc | apply pw_below_drewN | apply below_drew1 | refine below_set ?_ GE252.out | refine below_set ?_ GE253.out) | exact HB.out))) : w.heap.size ≤ gb260))
                      have n5_ := Aside0.mk ((by rw [hg]; exact (below_size (by repeat (first | (with_reducible first | exact HB.out | apply below_alloc | apply pw_below_drewN | apply below_drew1 | refine below_set ?_ GE252.out | refine below_set ?_ GE253.out) | exact HB.out))) : w.heap.size ≤ gb260))
                      have n6_ := Aside0.mk ((by rw [hg]; exact Nat.ne_of_lt (blk_lt (g := gb252) (o := .cells #[.string a0_0, .int .i64 a0_1, .int .i64 a0_2, .int .i64 a0_3, .int .i64 a0_4, .int .i64 a0_5, .int .i64 a0_6, .int .i64 a0_7] 23 (0, 0)) (by (with_reducible repeat (first | refine blk_drewN ?_ _ | refine blk_drew ?_ | refine blk_alloc ?_ _)); exact BK252.out)) : gb252 ≠ gb260))
                      have n7_ := Aside0.mk ((by rw [hg]; exact Nat.ne_of_gt (blk_lt (g := gb252) (o := .cells #[.string a0_0, .int .i64 a0_1, .int .i64 a0_2, .int .i64 a0_3, .int .i64 a0_4, .int .i64 a0_5, .int .i64 a0_6, .int .i64 a0_7] 23 (0, 0)) (by (with_reducible repeat (first | refine blk_drewN ?_ _ | refine blk_drew ?_ | refine blk_alloc ?_ _)); exact BK252.out)) : gb260 ≠ gb252))
                      have n8_ := Aside0.mk ((by rw [hg]; exact Nat.ne_of_lt (blk_lt (g := gb253) (o := .cells #[.int .i64 x254000_2, .int .i64 x254001_2] 25 (0, 0)) (by (with_reducible repeat (first | refine blk_drewN ?_ _ | refine blk_drew ?_ | refine blk_alloc ?_ _)); exact BK253.out)) : gb253 ≠ gb260))
                      have n9_ := Aside0.mk ((by rw [hg]; exact Nat.ne_of_gt (blk_lt (g := gb253) (o := .cells #[.int .i64 x254000_2, .int .i64 x254001_2] 25 (0, 0)) (by (with_reducible repeat (first | refine blk_drewN ?_ _ | refine blk_drew ?_ | refine blk_alloc ?_ _)); exact BK253.out)) : gb260 ≠ gb253))
                      clear BK252
                      clear BK253
                      clear HB
                      have BK252 := n0_
                      have BK253 := n1_
                      have HB := n2_
                      have BK260 := n3_
                      have GW260 := n4_
                      have GE260 := n5_
                      have NB252_260 := n6_
                      have NB260_252 := n7_
                      have NB253_260 := n8_
                      have NB260_253 := n9_
                      clear n0_ n1_ n2_ n3_ n4_ n5_ n6_ n7_ n8_ n9_
                      clear hb hbox hg
                      refine hK.out _ _ ⟨(blk_cell BK252.out 0).trans rfl, (blk_cell BK252.out 1).trans rfl, (blk_cell BK252.out 2).trans rfl, (blk_cell BK252.out 3).trans rfl, (blk_cell BK252.out 4).trans rfl, (blk_cell BK252.out 5).trans rfl, (blk_cell BK252.out 6).trans rfl, (blk_cell BK252.out 7).trans rfl, (blk_cell BK253.out 0).trans rfl, (blk_cell BK253.out 1).trans rfl, ((HB.out.cell (World.block_lt_of_cell? w _ hw256_0)).trans hw256_0)⟩ (fun hHeld => ?_)
                      clear hK K
                      refine norm_ (a' := ?_) ?_ ?_
                      rotate_left
                      · show Act.put _ (some 11) _ = _
                        simp only [Act.put, List.setIfInBounds_toArray, List.set_cons_zero, List.set_cons_succ, i64_w, i32_w]
                        rfl
                      exact norm_ (by simp only [putAll, Act.put, List.setIfInBounds_toArray, List.set_cons_zero, List.set_cons_succ]) (hCont (gb260) _ ⟨hHeld, (by (with_reducible repeat (first | refine blk_drewN ?_ _ | refine blk_drew ?_ | refine blk_alloc ?_ _)); exact BK252.out), (by (with_reducible repeat (first | refine blk_drewN ?_ _ | refine blk_drew ?_ | refine blk_alloc ?_ _)); exact BK253.out), (by (with_reducible repeat (first | refine blk_drewN ?_ _ | refine blk_drew ?_ | refine blk_alloc ?_ _)); exact BK260.out), GW260.out, GE260.out, NB252_260.out, NB260_252.out, NB253_260.out, NB260_253.out, (by repeat (first | (with_reducible first | exact HB.out | apply below_alloc | apply pw_below_drewN | apply below_drew1 | refine below_set ?_ GE252.out | refine below_set ?_ GE253.out | refine below_set ?_ GE260.out) | exact HB.out))⟩)
                    · skip
                      refine box_step ?hg (N := 11) ?hd (cs := #[.int .i64 0, .int .i64 0]) (t := 25) ?hr ?_; (case hd => rfl); (case hg => rfl); (case hr => first | (go_simp; done) | (go_simp; rfl))
                      intro gb260 hg w72 hbox hb
                      have n0_ := Aside0.mk (blk_below (g := gb252) (o := .cells #[.string a0_0, .int .i64 a0_1, .int .i64 a0_2, .int .i64 a0_3, .int .i64 a0_4, .int .i64 a0_5, .int .i64 a0_6, .int .i64 a0_7] 23 (0, 0)) (by (with_reducible repeat (first | refine blk_drewN ?_ _ | refine blk_drew ?_ | refine blk_alloc ?_ _)); exact BK252.out) hb)
                      have n1_ := Aside0.mk (blk_below (g := gb253) (o := .cells #[.int .i64 x254000_2, .int .i64 x254001_2] 25 (0, 0)) (by (with_reducible repeat (first | refine blk_drewN ?_ _ | refine blk_drew ?_ | refine blk_alloc ?_ _)); exact BK253.out) hb)
                      have n2_ := Aside0.mk (below_step (by repeat (first | (with_reducible first | exact HB.out | apply below_alloc | apply pw_below_drewN | apply below_drew1 | refine below_set ?_ GE252.out | refine below_set ?_ GE253.out) | exact HB.out)) hb)
                      have n3_ := Aside0.mk (hbox)
                      have n4_ := Aside0.mk ((by rw [hg]; exact (below_size (by repeat (first | (with_reducible first | exact HB.out | apply below_alloc | apply pw_below_drewN | apply below_drew1 | refine below_set ?_ GE252.out | refine below_set ?_ GE253.out) | exact HB.out))) : w.heap.size ≤ gb260))
                      have n5_ := Aside0.mk ((by rw [hg]; exact (below_size (by repeat (first | (with_reducible first | exact HB.out | apply below_alloc | apply pw_below_drewN | apply below_drew1 | refine below_set ?_ GE252.out | refine below_set ?_ GE253.out) | exact HB.out))) : w.heap.size ≤ gb260))
                      have n6_ := Aside0.mk ((by rw [hg]; exact Nat.ne_of_lt (blk_lt (g := gb252) (o := .cells #[.string a0_0, .int .i64 a0_1, .int .i64 a0_2, .int .i64 a0_3, .int .i64 a0_4, .int .i64 a0_5, .int .i64 a0_6, .int .i64 a0_7] 23 (0, 0)) (by (with_reducible repeat (first | refine blk_drewN ?_ _ | refine blk_drew ?_ | refine blk_alloc ?_ _)); exact BK252.out)) : gb252 ≠ gb260))
                      have n7_ := Aside0.mk ((by rw [hg]; exact Nat.ne_of_gt (blk_lt (g := gb252) (o := .cells #[.string a0_0, .int .i64 a0_1, .int .i64 a0_2, .int .i64 a0_3, .int .i64 a0_4, .int .i64 a0_5, .int .i64 a0_6, .int .i64 a0_7] 23 (0, 0)) (by (with_reducible repeat (first | refine blk_drewN ?_ _ | refine blk_drew ?_ | refine blk_alloc ?_ _)); exact BK252.out)) : gb260 ≠ gb252))
                      have n8_ := Aside0.mk ((by rw [hg]; exact Nat.ne_of_lt (blk_lt (g := gb253) (o := .cells #[.int .i64 x254000_2, .int .i64 x254001_2] 25 (0, 0)) (by (with_reducible repeat (first | refine blk_drewN ?_ _ | refine blk_drew ?_ | refine blk_alloc ?_ _)); exact BK253.out)) : gb253 ≠ gb260))
                      have n9_ := Aside0.mk ((by rw [hg]; exact Nat.ne_of_gt (blk_lt (g := gb253) (o := .cells #[.int .i64 x254000_2, .int .i64 x254001_2] 25 (0, 0)) (by (with_reducible repeat (first | refine blk_drewN ?_ _ | refine blk_drew ?_ | refine blk_alloc ?_ _)); exact BK253.out)) : gb260 ≠ gb253))
                      clear BK252
                      clear BK253
                      clear HB
                      have BK252 := n0_
                      have BK253 := n1_
                      have HB := n2_
                      have BK260 := n3_
                      have GW260 := n4_
                      have GE260 := n5_
                      have NB252_260 := n6_
                      have NB260_252 := n7_
                      have NB253_260 := n8_
                      have NB260_253 := n9_
                      clear n0_ n1_ n2_ n3_ n4_ n5_ n6_ n7_ n8_ n9_
                      clear hb hbox hg
                      refine hK.out _ _ ⟨(blk_cell BK252.out 0).trans rfl, (blk_cell BK252.out 1).trans rfl, (blk_cell BK252.out 2).trans rfl, (blk_cell BK252.out 3).trans rfl, (blk_cell BK252.out 4).trans rfl, (blk_cell BK252.out 5).trans rfl, (blk_cell BK252.out 6).trans rfl, (blk_cell BK252.out 7).trans rfl, (blk_cell BK253.out 0).trans rfl, (blk_cell BK253.out 1).trans rfl, ((HB.out.cell (World.block_lt_of_cell? w _ hw256_0)).trans hw256_0)⟩ (fun hHeld => ?_)
                      clear hK K
                      refine norm_ (a' := ?_) ?_ ?_
                      rotate_left
                      · show Act.put _ (some 11) _ = _
                        simp only [Act.put, List.setIfInBounds_toArray, List.set_cons_zero, List.set_cons_succ, i64_w, i32_w]
                        rfl
                      refine one_ (i := 6) (N := some 41) #[true, true, true, true, true, true, true, false, false, false, true, false, false] rfl rfl (one_of HT_.out (by kernel_rfl)) (by decide) (fun K hK => ?_)
                      refine goes_ Tryd.func10 (by kernel_rfl) rfl #[.agg #[.string a0_0, .int .i64 a0_1, .int .i64 a0_2, .int .i64 a0_3, .int .i64 a0_4, .int .i64 a0_5, .int .i64 a0_6, .int .i64 a0_7], .agg #[.int .i64 x254000_2, .int .i64 x254001_2], .int .i64 (rd l2 x10_2)] (by rfl) rfl rfl (by (try simp only [List.map_toArray, List.map_cons, List.map_nil]); first | done | rfl | (simp only [List.length_drop, List.length_take]; rfl)) ?_
                      with_reducible refine (ramp_Next.calls a0_0 a0_1 a0_2 a0_3 a0_4 a0_5 a0_6 a0_7 x254000_2 x254001_2 (rd l2 x10_2) t257 t258 t259 _ (hG.below (by repeat (first | (with_reducible first | exact HB.out | apply below_alloc | apply pw_below_drewN | apply below_drew1) | exact HB.out))) A20.out).mono ?_
                      rintro e w73 ⟨rfl, hb⟩
                      refine ⟨_, rfl, ?_⟩
                      have n0_ := Aside0.mk (blk_below (g := gb252) (o := .cells #[.string a0_0, .int .i64 a0_1, .int .i64 a0_2, .int .i64 a0_3, .int .i64 a0_4, .int .i64 a0_5, .int .i64 a0_6, .int .i64 a0_7] 23 (0, 0)) (by (with_reducible repeat (first | refine blk_drewN ?_ _ | refine blk_drew ?_ | refine blk_alloc ?_ _)); exact BK252.out) hb)
                      have n1_ := Aside0.mk (blk_below (g := gb253) (o := .cells #[.int .i64 x254000_2, .int .i64 x254001_2] 25 (0, 0)) (by (with_reducible repeat (first | refine blk_drewN ?_ _ | refine blk_drew ?_ | refine blk_alloc ?_ _)); exact BK253.out) hb)
                      have n2_ := Aside0.mk (blk_below (g := gb260) (o := .cells #[.int .i64 0, .int .i64 0] 25 (0, 0)) (by (with_reducible repeat (first | refine blk_drewN ?_ _ | refine blk_drew ?_ | refine blk_alloc ?_ _)); exact BK260.out) hb)
                      have n3_ := Aside0.mk (below_step (by repeat (first | (with_reducible first | exact HB.out | apply below_alloc | apply pw_below_drewN | apply below_drew1 | refine below_set ?_ GE252.out | refine below_set ?_ GE253.out | refine below_set ?_ GE260.out) | exact HB.out)) hb)
                      clear BK252
                      clear BK253
                      clear BK260
                      clear HB
                      have BK252 := n0_
                      have BK253 := n1_
                      have BK260 := n2_
                      have HB := n3_
                      clear n0_ n1_ n2_ n3_
                      (try clear hb)
                      (try clear hb2)
                      (try clear hk)
                      (try clear hi)
                      refine hK.out _ _ ⟨(blk_cell BK252.out 0).trans rfl, (blk_cell BK252.out 1).trans rfl, (blk_cell BK252.out 2).trans rfl, (blk_cell BK252.out 3).trans rfl, (blk_cell BK252.out 4).trans rfl, (blk_cell BK252.out 5).trans rfl, (blk_cell BK252.out 6).trans rfl, (blk_cell BK252.out 7).trans rfl, (blk_cell BK253.out 0).trans rfl, (blk_cell BK253.out 1).trans rfl, ((HB.out.cell (World.block_lt_of_cell? w _ hw256_0)).trans hw256_0)⟩ (fun hHeld => ?_)
                      clear hK K
                      refine norm_ (a' := ?_) ?_ ?_
                      rotate_left
                      · show Act.put _ (some 41) _ = _
                        simp only [Act.put, List.setIfInBounds_toArray, List.set_cons_zero, List.set_cons_succ, i64_w, i32_w]
                        rfl
                      refine pure_ (i := 7) (N := some 34) (v := ?_) (a' := ?_) #[true, true, true, true, true, true, true, true, false, false, true, false, false] rfl rfl (any_of HT_.out (by kernel_rfl)) (fun _ _ _ h => h) (Or.inl ⟨by rfl, ?_⟩) ?_ ?_
                      rotate_left
                      · intro w'
                        go_simp
                        with_reducible rfl
                      rotate_left
                      · simp only [Act.put, List.setIfInBounds_toArray, List.set_cons_zero, List.set_cons_succ, i64_w, i32_w]
                        rfl
                      refine pure_ (i := 8) (N := some 42) (v := ?_) (a' := ?_) #[true, true, true, true, true, true, true, true, true, false, true, false, false] rfl rfl (any_of HT_.out (by kernel_rfl)) (fun _ _ _ h => h) (Or.inl ⟨by rfl, ?_⟩) ?_ ?_
                      rotate_left
                      · intro w'
                        go_simp
                        with_reducible rfl
                      rotate_left
                      · simp only [Act.put, List.setIfInBounds_toArray, List.set_cons_zero, List.set_cons_succ, i64_w, i32_w]
                        rfl
                      refine pure_ (i := 9) (N := some 43) (v := ?_) (a' := ?_) #[true, true, true, true, true, true, true, true, true, true, true, false, false] rfl rfl (any_of HT_.out (by kernel_rfl)) (fun _ _ _ h => h) (Or.inl ⟨by rfl, ?_⟩) ?_ ?_
                      rotate_left
                      · intro w'
                        go_simp
                        with_reducible rfl
                      rotate_left
                      · simp only [Act.put, List.setIfInBounds_toArray, List.set_cons_zero, List.set_cons_succ, i64_w, i32_w]
                        rfl
                      exact norm_ (by simp only [putAll, Act.put, List.setIfInBounds_toArray, List.set_cons_zero, List.set_cons_succ]) (hCont (gb260) _ ⟨hHeld, (by (with_reducible repeat (first | refine blk_drewN ?_ _ | refine blk_drew ?_ | refine blk_alloc ?_ _)); exact BK252.out), (by (with_reducible repeat (first | refine blk_drewN ?_ _ | refine blk_drew ?_ | refine blk_alloc ?_ _)); exact BK253.out), (by (with_reducible repeat (first | refine blk_drewN ?_ _ | refine blk_drew ?_ | refine blk_alloc ?_ _)); exact BK260.out), GW260.out, GE260.out, NB252_260.out, NB260_252.out, NB253_260.out, NB260_253.out, (by repeat (first | (with_reducible first | exact HB.out | apply below_alloc | apply pw_below_drewN | apply below_drew1 | refine below_set ?_ GE252.out | refine below_set ?_ GE253.out | refine below_set ?_ GE260.out) | exact HB.out))⟩)
                  rintro gb260 w74 ⟨hS_, h0_, h1_, h2_, h3_, h4_, h5_, h6_, h7_, h8_, h9_⟩
                  have n0_ : Aside0 (w74.heap[gb252]? = some (.cells #[.string a0_0, .int .i64 a0_1, .int .i64 a0_2, .int .i64 a0_3, .int .i64 a0_4, .int .i64 a0_5, .int .i64 a0_6, .int .i64 a0_7] 23 (0, 0))) := ⟨h0_⟩
                  have n1_ : Aside0 (w74.heap[gb253]? = some (.cells #[.int .i64 x254000_2, .int .i64 x254001_2] 25 (0, 0))) := ⟨h1_⟩
                  have n2_ : Aside0 (w74.heap[gb260]? = some (.cells #[.int .i64 0, .int .i64 0] 25 (0, 0))) := ⟨h2_⟩
                  have n3_ : Aside0 (w.heap.size ≤ gb260) := ⟨h3_⟩
                  have n4_ : Aside0 (w.heap.size ≤ gb260) := ⟨h4_⟩
                  have n5_ : Aside0 (gb252 ≠ gb260) := ⟨h5_⟩
                  have n6_ : Aside0 (gb260 ≠ gb252) := ⟨h6_⟩
                  have n7_ : Aside0 (gb253 ≠ gb260) := ⟨h7_⟩
                  have n8_ : Aside0 (gb260 ≠ gb253) := ⟨h8_⟩
                  have n9_ : Aside0 (Below w.heap.size w w74) := ⟨h9_⟩
                  clear BK252
                  clear BK253
                  clear HB
                  clear h0_ h1_ h2_ h3_ h4_ h5_ h6_ h7_ h8_ h9_
                  have BK252 := n0_
                  have BK253 := n1_
                  have BK260 := n2_
                  have GW260 := n3_
                  have GE260 := n4_
                  have NB252_260 := n5_
                  have NB260_252 := n6_
                  have NB253_260 := n7_
                  have NB260_253 := n8_
                  have HB := n9_
                  clear n0_ n1_ n2_ n3_ n4_ n5_ n6_ n7_ n8_ n9_
                  have hHeld : w74.cell? ⟨gb252, 0, none⟩ = some (.string a0_0) ∧ w74.cell? ⟨gb252, 1, none⟩ = some (.int .i64 a0_1) ∧ w74.cell? ⟨gb252, 2, none⟩ = some (.int .i64 a0_2) ∧ w74.cell? ⟨gb252, 3, none⟩ = some (.int .i64 a0_3) ∧ w74.cell? ⟨gb252, 4, none⟩ = some (.int .i64 a0_4) ∧ w74.cell? ⟨gb252, 5, none⟩ = some (.int .i64 a0_5) ∧ w74.cell? ⟨gb252, 6, none⟩ = some (.int .i64 a0_6) ∧ w74.cell? ⟨gb252, 7, none⟩ = some (.int .i64 a0_7) ∧ w74.cell? ⟨gb253, 0, none⟩ = some (.int .i64 x254000_2) ∧ w74.cell? ⟨gb253, 1, none⟩ = some (.int .i64 x254001_2) ∧ w74.cell? (ad256.add (x10_2).toNat) = some (.int .i64 (rd l2 x10_2)) := hS_
                  refine norm_ (a' := ?_) ?_ ?_
                  rotate_left
                  · simp only [putAll, Act.put, List.setIfInBounds_toArray, List.set_cons_zero, List.set_cons_succ]
                    rfl
                  refine one_ (i := 11) (N := none) #[true, true, true, true, true, true, true, true, true, true, true, true, false] rfl rfl (one_of HT_.out (by kernel_rfl)) (by decide) (fun K hK => ?_)
                  have hs75 : w74.cell? ⟨gb260, 0, none⟩ = some (.int .i64 0) := (blk_cell BK260.out 0).trans rfl
                  have hfs75 := blk_frozen BK260.out 0
                  have hns75_0 := NB252_260.out
                  have hns75_1 := NB253_260.out
                  have hms75_0 := NB260_252.out
                  have hms75_1 := NB260_253.out
                  have hs76 : w74.cell? ⟨gb260, 1, none⟩ = some (.int .i64 0) := (blk_cell BK260.out 1).trans rfl
                  have hfs76 := blk_frozen BK260.out 1
                  have hns76_0 := NB252_260.out
                  have hns76_1 := NB253_260.out
                  have hms76_0 := NB260_252.out
                  have hms76_1 := NB260_253.out
                  refine skip_ (w1 := ?_) (by rfl) rfl ?_ ?_
                  rotate_left
                  · go_simp
                    rfl
                  refine hK.out _ _ ⟨((cell_far (p := ⟨gb260, _, none⟩) NB252_260.out _).trans (((cell_far (p := ⟨gb260, _, none⟩) NB252_260.out _).trans (hHeld.1)))), ((cell_far (p := ⟨gb260, _, none⟩) NB252_260.out _).trans (((cell_far (p := ⟨gb260, _, none⟩) NB252_260.out _).trans (hHeld.2.1)))), ((cell_far (p := ⟨gb260, _, none⟩) NB252_260.out _).trans (((cell_far (p := ⟨gb260, _, none⟩) NB252_260.out _).trans (hHeld.2.2.1)))), ((cell_far (p := ⟨gb260, _, none⟩) NB252_260.out _).trans (((cell_far (p := ⟨gb260, _, none⟩) NB252_260.out _).trans (hHeld.2.2.2.1)))), ((cell_far (p := ⟨gb260, _, none⟩) NB252_260.out _).trans (((cell_far (p := ⟨gb260, _, none⟩) NB252_260.out _).trans (hHeld.2.2.2.2.1)))), ((cell_far (p := ⟨gb260, _, none⟩) NB252_260.out _).trans (((cell_far (p := ⟨gb260, _, none⟩) NB252_260.out _).trans (hHeld.2.2.2.2.2.1)))), ((cell_far (p := ⟨gb260, _, none⟩) NB252_260.out _).trans (((cell_far (p := ⟨gb260, _, none⟩) NB252_260.out _).trans (hHeld.2.2.2.2.2.2.1)))), ((cell_far (p := ⟨gb260, _, none⟩) NB252_260.out _).trans (((cell_far (p := ⟨gb260, _, none⟩) NB252_260.out _).trans (hHeld.2.2.2.2.2.2.2.1)))), ((cell_far (p := ⟨gb260, _, none⟩) NB253_260.out _).trans (((cell_far (p := ⟨gb260, _, none⟩) NB253_260.out _).trans (hHeld.2.2.2.2.2.2.2.2.1)))), ((cell_far (p := ⟨gb260, _, none⟩) NB253_260.out _).trans (((cell_far (p := ⟨gb260, _, none⟩) NB253_260.out _).trans (hHeld.2.2.2.2.2.2.2.2.2.1)))), ((cell_far (p := ⟨gb260, _, none⟩) (by first | exact Nat.ne_of_lt (Nat.lt_of_lt_of_le (by have := World.block_lt_of_cell? _ _ hw256_0; first | rwa [add_block] at this | exact this) GW260.out) | (rw [add_block]; exact Nat.ne_of_lt (Nat.lt_of_lt_of_le (by have := World.block_lt_of_cell? _ _ hw256_0; first | rwa [add_block] at this | exact this) GW260.out)) | (show (Addr.add _ _).block ≠ _; rw [add_block]; exact Nat.ne_of_lt (Nat.lt_of_lt_of_le (by have := World.block_lt_of_cell? _ _ hw256_0; first | rwa [add_block] at this | exact this) GW260.out)) | (dsimp only; exact Nat.ne_of_lt (Nat.lt_of_lt_of_le (by have := World.block_lt_of_cell? _ _ hw256_0; first | rwa [add_block] at this | exact this) GW260.out))) _).trans (((cell_far (p := ⟨gb260, _, none⟩) (by first | exact Nat.ne_of_lt (Nat.lt_of_lt_of_le (by have := World.block_lt_of_cell? _ _ hw256_0; first | rwa [add_block] at this | exact this) GW260.out) | (rw [add_block]; exact Nat.ne_of_lt (Nat.lt_of_lt_of_le (by have := World.block_lt_of_cell? _ _ hw256_0; first | rwa [add_block] at this | exact this) GW260.out)) | (show (Addr.add _ _).block ≠ _; rw [add_block]; exact Nat.ne_of_lt (Nat.lt_of_lt_of_le (by have := World.block_lt_of_cell? _ _ hw256_0; first | rwa [add_block] at this | exact this) GW260.out)) | (dsimp only; exact Nat.ne_of_lt (Nat.lt_of_lt_of_le (by have := World.block_lt_of_cell? _ _ hw256_0; first | rwa [add_block] at this | exact this) GW260.out))) _).trans (hHeld.2.2.2.2.2.2.2.2.2.2))))⟩ (fun hHeld => ?_)
                  clear hK K
                  refine pure_ (i := 12) (N := some 12) (v := ?_) (a' := ?_) #[true, true, true, true, true, true, true, true, true, true, true, true, true] rfl rfl (any_of HT_.out (by kernel_rfl)) (fun _ _ _ h => h) (Or.inl ⟨by rfl, ?_⟩) ?_ ?_
                  rotate_left
                  · intro w'
                    go_simp
                    with_reducible rfl
                  rotate_left
                  · simp only [Act.put, List.setIfInBounds_toArray, List.set_cons_zero, List.set_cons_succ, i64_w, i32_w]
                    rfl
                  refine done_ (done_of HT_.out (by kernel_rfl)) ?_
                  try go_wp2
                  go_roundg k2
                  case measure => have := HJ5.out; have := HK2.out; omega
                  case rel => exact ⟨(x7_2), (x9_2), (wrap64 (x10_2 + 1)), (x254000_2), (x254001_2), (by first | rfl | (simp; done) | (simp [*]; done)), (by first | rfl | (simp; done) | (simp [*]; done)), (by first | rfl | (simp; done) | (simp [*]; done)), H', ⟨by have := HJ5.out; have := HK2.out; omega⟩, ⟨by (with_reducible repeat (first | refine blk_drewN ?_ _ | refine blk_drew ?_ | refine blk_alloc ?_ _)); refine blk_far ?_ NB252_260.out _; (with_reducible repeat (first | refine blk_drewN ?_ _ | refine blk_drew ?_ | refine blk_alloc ?_ _)); refine blk_far ?_ NB252_260.out _; (with_reducible repeat (first | refine blk_drewN ?_ _ | refine blk_drew ?_ | refine blk_alloc ?_ _)); exact BK252.out⟩, ⟨by (with_reducible repeat (first | refine blk_drewN ?_ _ | refine blk_drew ?_ | refine blk_alloc ?_ _)); refine blk_far ?_ NB253_260.out _; (with_reducible repeat (first | refine blk_drewN ?_ _ | refine blk_drew ?_ | refine blk_alloc ?_ _)); refine blk_far ?_ NB253_260.out _; (with_reducible repeat (first | refine blk_drewN ?_ _ | refine blk_drew ?_ | refine blk_alloc ?_ _)); exact BK253.out⟩, ⟨by repeat (first | (with_reducible first | exact HB.out | apply below_alloc | apply pw_below_drewN | apply below_drew1 | refine below_set ?_ GE252.out | refine below_set ?_ GE253.out | refine below_set ?_ GE260.out) | exact HB.out)⟩⟩
              · rw [if_neg c19] at H
                exact absurd H (by simp)
            · rw [if_neg c18] at H
              have c18b0 : decide (x10_2 < (l2.length : Int)) = false := decide_eq_false c18
              clear c18
              replace H := Option.bind_eq_some_iff.mp H
              obtain ⟨t255, A770, H⟩ := H
              replace H : (if x7_2 = true then (some t255) else (some false)) = some r := H
              have A77 := Aside0.mk A770
              clear A770
              by_cases c78 : x7_2 = true
              · subst c78
                have H1 : (some t255) = some r := by rw [if_pos rfl] at H; exact H
                clear H
                have H := H1
                clear H1
                obtain rfl := Option.some.inj H
                simp only [Option.some.injEq, Prod.mk.injEq] at H
                obtain ⟨rfl⟩ := H
                have hnb79 := NB252_253.out
                have hnc79 := NB253_252.out
                have hcz80_0 : wr.cell? ⟨gb252, 0, none⟩ = some (.string a0_0) := (blk_cell BK252.out 0).trans rfl
                have hcz80_1 : wr.cell? ⟨gb252, 1, none⟩ = some (.int .i64 a0_1) := (blk_cell BK252.out 1).trans rfl
                have hcz80_2 : wr.cell? ⟨gb252, 2, none⟩ = some (.int .i64 a0_2) := (blk_cell BK252.out 2).trans rfl
                have hcz80_3 : wr.cell? ⟨gb252, 3, none⟩ = some (.int .i64 a0_3) := (blk_cell BK252.out 3).trans rfl
                have hcz80_4 : wr.cell? ⟨gb252, 4, none⟩ = some (.int .i64 a0_4) := (blk_cell BK252.out 4).trans rfl
                have hcz80_5 : wr.cell? ⟨gb252, 5, none⟩ = some (.int .i64 a0_5) := (blk_cell BK252.out 5).trans rfl
                have hcz80_6 : wr.cell? ⟨gb252, 6, none⟩ = some (.int .i64 a0_6) := (blk_cell BK252.out 6).trans rfl
                have hcz80_7 : wr.cell? ⟨gb252, 7, none⟩ = some (.int .i64 a0_7) := (blk_cell BK252.out 7).trans rfl
                have hfz80_0 := blk_frozen BK252.out 0
                have hfz80_1 := blk_frozen BK252.out 1
                have hfz80_2 := blk_frozen BK252.out 2
                have hfz80_3 := blk_frozen BK252.out 3
                have hfz80_4 := blk_frozen BK252.out 4
                have hfz80_5 := blk_frozen BK252.out 5
                have hfz80_6 := blk_frozen BK252.out 6
                have hfz80_7 := blk_frozen BK252.out 7
                go_wp2_with (first | ((with_reducible refine gate_callee (f := 15) rfl ?_); refine goesL_ (some 65) rfl rfl Tryd.func15 (by kernel_rfl) rfl #[.agg #[.string a0_0, .int .i64 a0_1, .int .i64 a0_2, .int .i64 a0_3, .int .i64 a0_4, .int .i64 a0_5, .int .i64 a0_6, .int .i64 a0_7]] rfl (by (try simp only [List.map_toArray, List.map_cons, List.map_nil]); first | done | rfl | (simp only [List.length_drop, List.length_take]; rfl)) ?_; (with_reducible refine (chargeparkref12_Charger.calls a0_0 a0_1 a0_2 a0_3 a0_4 a0_5 a0_6 a0_7 t255 _ A77.out).mono ?_); rintro e w81 ⟨rfl, hb⟩; refine ⟨_, rfl, ?_⟩; have n0_ := Aside0.mk (blk_below (g := gb252) (o := .cells #[.string a0_0, .int .i64 a0_1, .int .i64 a0_2, .int .i64 a0_3, .int .i64 a0_4, .int .i64 a0_5, .int .i64 a0_6, .int .i64 a0_7] 23 (0, 0)) (by (with_reducible repeat (first | refine blk_drewN ?_ _ | refine blk_drew ?_ | refine blk_alloc ?_ _)); exact BK252.out) hb); have n1_ := Aside0.mk (blk_below (g := gb253) (o := .cells #[.int .i64 x254000_2, .int .i64 x254001_2] 25 (0, 0)) (by (with_reducible repeat (first | refine blk_drewN ?_ _ | refine blk_drew ?_ | refine blk_alloc ?_ _)); exact BK253.out) hb); have n2_ := Aside0.mk (below_step (by repeat (first | (with_reducible first | exact HB.out | apply below_alloc | apply pw_below_drewN | apply below_drew1 | refine below_set ?_ GE252.out | refine below_set ?_ GE253.out) | exact HB.out)) hb); clear BK252; clear BK253; clear HB; have BK252 := n0_; have BK253 := n1_; have HB := n2_; clear n0_ n1_ n2_; (try clear hb); (try clear hb2); (try clear hk); (try clear hi)))
                go_ret
                exact ⟨by first | rfl | (simp [errW_none, errW_some] <;> rfl) | (simp [*, errW_none, errW_some] <;> rfl), by repeat (first | (with_reducible first | exact HB.out | apply below_alloc | apply pw_below_drewN | apply below_drew1 | refine below_set ?_ GE252.out | refine below_set ?_ GE253.out) | exact HB.out)⟩
              · replace c78 := Bool.eq_false_iff.mpr c78
                subst c78
                have H1 : (some false) = some r := by rw [if_neg (show ¬ (false = true) by decide)] at H; exact H
                clear H
                have H := H1
                clear H1
                obtain rfl := Option.some.inj H
                exact absurd hr.out (by decide)

end Go.Proofs.YtagphncpdhaklaaDoor.PAll
