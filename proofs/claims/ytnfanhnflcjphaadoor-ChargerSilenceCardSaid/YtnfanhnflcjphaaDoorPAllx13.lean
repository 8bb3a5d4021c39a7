/- What the Go functions of this seat's laws return, told as Lean functions and proved by their walks; laid by a program of this session out of Lean's own print of the translation. No conditions of its own. -/
import Derived.Test.YtnfanhnflcjphaaDoorPAllx0
import Derived.Test.YtnfanhnflcjphaaDoorPAllx3
import Derived.Test.YtnfanhnflcjphaaDoorPAllx4
import Derived.Test.YtnfanhnflcjphaaDoorPAllx6
import Derived.Test.YtnfanhnflcjphaaDoorPAllx7
namespace Go.Proofs.YtnfanhnflcjphaaDoor.PAll
open Go.RowKit Go.Proofs.YtnfanhnflcjphaaDoorW.PrintWords Go.Proofs.YtnfanhnflcjphaaDoorW.PrintLast Go.Proofs.YtnfanhnflcjphaaDoorW.PrintMore
attribute [local go_sem] max2_int min2_int max_two min_two max_three min_three max_four min_four   -- for this text's walks alone
set_option linter.unusedVariables false
set_option linter.unusedSimpArgs false

/-! ### chargeparklaw12_ChargerSilence: function 8 -/
mutual
def chargeparklaw12_ChargerSilence.j0 : Nat → Bool → Bool → ByteArray → Int → Int → Int → Int → Int → Int → Int → Int → Int → Int → Bool → Option (Bool)
  | 0, _, _, _, _, _, _, _, _, _, _, _, _, _, _ => none
  | k + 1, x5, x27, x311000, x311001, x311002, x311003, x311004, x311005, x311006, x311007, x312000, x312001, x312002, x312003 => if x27 = true then (some x5) else ((charger_Step.f x311000 x311001 x311002 x311003 x311004 x311005 x311006 x311007 x312000 x312001 x312002 x312003 9 0 0).bind fun bt313 => (if x5 = true then (if bt313.2.2.2.2 = 0 then (if bt313.1 = 4 then (chargeparklaw12_ChargerSilence.j1 k false x311000 x311001 x311002 x311003 x311004 x311005 x311006 x311007 x312000 x312001 x312002 x312003) else (if bt313.2.2.1 = 0 then ((charger_Allowed.f x311000 x311001 x311002 x311003 x311004 x311005 x311006 x311007 bt313.1 bt313.2.1 bt313.2.2.1 bt313.2.2.2.1).bind fun t319 => (chargeparklaw12_ChargerSilence.j1 k (t319 == 0) x311000 x311001 x311002 x311003 x311004 x311005 x311006 x311007 x312000 x312001 x312002 x312003)) else (chargeparklaw12_ChargerSilence.j1 k false x311000 x311001 x311002 x311003 x311004 x311005 x311006 x311007 x312000 x312001 x312002 x312003))) else (chargeparklaw12_ChargerSilence.j1 k false x311000 x311001 x311002 x311003 x311004 x311005 x311006 x311007 x312000 x312001 x312002 x312003)) else (chargeparklaw12_ChargerSilence.j1 k false x311000 x311001 x311002 x311003 x311004 x311005 x311006 x311007 x312000 x312001 x312002 x312003)))
def chargeparklaw12_ChargerSilence.j1 : Nat → Bool → ByteArray → Int → Int → Int → Int → Int → Int → Int → Int → Int → Int → Bool → Option (Bool)
  | 0, _, _, _, _, _, _, _, _, _, _, _, _, _ => none
  | k + 1, x5, x311000, x311001, x311002, x311003, x311004, x311005, x311006, x311007, x312000, x312001, x312002, x312003 => chargeparklaw12_ChargerSilence.l0 k x5 x312002 0 x311000 x311001 x311002 x311003 x311004 x311005 x311006 x311007 x312000 x312001 x312002 x312003
def chargeparklaw12_ChargerSilence.l0 : Nat → Bool → Int → Int → ByteArray → Int → Int → Int → Int → Int → Int → Int → Int → Int → Int → Bool → Option (Bool)
  | 0, _, _, _, _, _, _, _, _, _, _, _, _, _, _, _ => none
  | k + 1, x5, x9, x10, x311000, x311001, x311002, x311003, x311004, x311005, x311006, x311007, x312000, x312001, x312002, x312003 => if x10 < x9 then ((charger_Step.f x311000 x311001 x311002 x311003 x311004 x311005 x311006 x311007 x312000 x312001 x312002 x312003 8 0 0).bind fun bt320 => (if bt320.2.2.2.2 = 0 then (if bt320.2.2.1 = (wrap64 ((wrap64 (x9 - 1)) - x10)) then (chargeparklaw12_ChargerSilence.l0 k x5 x9 (wrap64 (x10 + 1)) x311000 x311001 x311002 x311003 x311004 x311005 x311006 x311007 bt320.1 bt320.2.1 bt320.2.2.1 bt320.2.2.2.1) else (some false)) else (some false))) else (if x5 = true then ((charger_Allowed.f x311000 x311001 x311002 x311003 x311004 x311005 x311006 x311007 x312000 x312001 x312002 x312003).bind fun t326 => (some (decide (t326 ≤ x311006)))) else (some false))
end
def chargeparklaw12_ChargerSilence.f (k : Nat) (a0_0 : ByteArray) (a0_1 : Int) (a0_2 : Int) (a0_3 : Int) (a0_4 : Int) (a0_5 : Int) (a0_6 : Int) (a0_7 : Int) (a1_0 : Int) (a1_1 : Int) (a1_2 : Int) (a1_3 : Bool) : Option (Bool) := (chargeparklaw12_head_c.f).bind fun _ => ((chargeparkref12_Valid.f k a0_0 a0_1 a0_2 a0_3 a0_4 a0_5 a0_6 a0_7 a1_0 a1_1 a1_2 a1_3).bind fun t312 => (if t312 = true then (if a1_3 = true then (chargeparklaw12_ChargerSilence.j0 k true true a0_0 a0_1 a0_2 a0_3 a0_4 a0_5 a0_6 a0_7 a1_0 a1_1 a1_2 a1_3) else (chargeparklaw12_ChargerSilence.j0 k true (decide (a1_2 > 300)) a0_0 a0_1 a0_2 a0_3 a0_4 a0_5 a0_6 a0_7 a1_0 a1_1 a1_2 a1_3)) else (chargeparklaw12_ChargerSilence.j0 k true true a0_0 a0_1 a0_2 a0_3 a0_4 a0_5 a0_6 a0_7 a1_0 a1_1 a1_2 a1_3)))
theorem chargeparklaw12_ChargerSilence.mono_l : ∀ k, (∀ y0 y1 y2 y3 y4 y5 y6 y7 y8 y9 y10 y11 y12 y13, LeO (chargeparklaw12_ChargerSilence.j0 k y0 y1 y2 y3 y4 y5 y6 y7 y8 y9 y10 y11 y12 y13) (chargeparklaw12_ChargerSilence.j0 (k + 1) y0 y1 y2 y3 y4 y5 y6 y7 y8 y9 y10 y11 y12 y13)) ∧ (∀ y0 y1 y2 y3 y4 y5 y6 y7 y8 y9 y10 y11 y12, LeO (chargeparklaw12_ChargerSilence.j1 k y0 y1 y2 y3 y4 y5 y6 y7 y8 y9 y10 y11 y12) (chargeparklaw12_ChargerSilence.j1 (k + 1) y0 y1 y2 y3 y4 y5 y6 y7 y8 y9 y10 y11 y12)) ∧ (∀ y0 y1 y2 y3 y4 y5 y6 y7 y8 y9 y10 y11 y12 y13 y14, LeO (chargeparklaw12_ChargerSilence.l0 k y0 y1 y2 y3 y4 y5 y6 y7 y8 y9 y10 y11 y12 y13 y14) (chargeparklaw12_ChargerSilence.l0 (k + 1) y0 y1 y2 y3 y4 y5 y6 y7 y8 y9 y10 y11 y12 y13 y14))
  | 0 => ⟨fun _ _ _ _ _ _ _ _ _ _ _ _ _ _ r h => by simp [chargeparklaw12_ChargerSilence.j0] at h, fun _ _ _ _ _ _ _ _ _ _ _ _ _ r h => by simp [chargeparklaw12_ChargerSilence.j1] at h, fun _ _ _ _ _ _ _ _ _ _ _ _ _ _ _ r h => by simp [chargeparklaw12_ChargerSilence.l0] at h⟩
  | k + 1 => by
    obtain ⟨ih0, ih1, ih2⟩ := chargeparklaw12_ChargerSilence.mono_l k
    refine ⟨?_, ?_, ?_⟩
    · intro y0 y1 y2 y3 y4 y5 y6 y7 y8 y9 y10 y11 y12 y13
      unfold chargeparklaw12_ChargerSilence.j0
      repeat' first
      | (with_reducible exact ih0 _ _ _ _ _ _ _ _ _ _ _ _ _ _)
      | (with_reducible exact ih1 _ _ _ _ _ _ _ _ _ _ _ _ _)
      | (with_reducible exact ih2 _ _ _ _ _ _ _ _ _ _ _ _ _ _ _)
      | (with_reducible exact chargeparkref12_Valid.mono _ _ _ _ _ _ _ _ _ _ _ _ _)
      | (with_reducible exact LeO.refl _)
      | (with_reducible exact LeO.none _)
      | (with_reducible refine LeO.ite ?_ ?_)
      | (with_reducible refine LeO.bind ?_ (fun _ => ?_))
      | exact ih0 _ _ _ _ _ _ _ _ _ _ _ _ _ _
      | exact ih1 _ _ _ _ _ _ _ _ _ _ _ _ _
      | exact ih2 _ _ _ _ _ _ _ _ _ _ _ _ _ _ _
      | exact chargeparkref12_Valid.mono _ _ _ _ _ _ _ _ _ _ _ _ _
      | exact LeO.none _
      | refine LeO.ite ?_ ?_
      | refine LeO.bind ?_ (fun _ => ?_)
    · intro y0 y1 y2 y3 y4 y5 y6 y7 y8 y9 y10 y11 y12
      unfold chargeparklaw12_ChargerSilence.j1
      repeat' first
      | (with_reducible exact ih0 _ _ _ _ _ _ _ _ _ _ _ _ _ _)
      | (with_reducible exact ih1 _ _ _ _ _ _ _ _ _ _ _ _ _)
      | (with_reducible exact ih2 _ _ _ _ _ _ _ _ _ _ _ _ _ _ _)
      | (with_reducible exact chargeparkref12_Valid.mono _ _ _ _ _ _ _ _ _ _ _ _ _)
      | (with_reducible exact LeO.refl _)
      | (with_reducible exact LeO.none _)
      | (with_reducible refine LeO.ite ?_ ?_)
      | (with_reducible refine LeO.bind ?_ (fun _ => ?_))
      | exact ih0 _ _ _ _ _ _ _ _ _ _ _ _ _ _
      | exact ih1 _ _ _ _ _ _ _ _ _ _ _ _ _
      | exact ih2 _ _ _ _ _ _ _ _ _ _ _ _ _ _ _
      | exact chargeparkref12_Valid.mono _ _ _ _ _ _ _ _ _ _ _ _ _
      | exact LeO.none _
      | refine LeO.ite ?_ ?_
      | refine LeO.bind ?_ (fun _ => ?_)
    · intro y0 y1 y2 y3 y4 y5 y6 y7 y8 y9 y10 y11 y12 y13 y14
      unfold chargeparklaw12_ChargerSilence.l0
      repeat' first
      | (with_reducible exact ih0 _ _ _ _ _ _ _ _ _ _ _ _ _ _)
      | (with_reducible exact ih1 _ _ _ _ _ _ _ _ _ _ _ _ _)
      | (with_reducible exact ih2 _ _ _ _ _ _ _ _ _ _ _ _ _ _ _)
      | (with_reducible exact chargeparkref12_Valid.mono _ _ _ _ _ _ _ _ _ _ _ _ _)
      | (with_reducible exact LeO.refl _)
      | (with_reducible exact LeO.none _)
      | (with_reducible refine LeO.ite ?_ ?_)
      | (with_reducible refine LeO.bind ?_ (fun _ => ?_))
      | exact ih0 _ _ _ _ _ _ _ _ _ _ _ _ _ _
      | exact ih1 _ _ _ _ _ _ _ _ _ _ _ _ _
      | exact ih2 _ _ _ _ _ _ _ _ _ _ _ _ _ _ _
      | exact chargeparkref12_Valid.mono _ _ _ _ _ _ _ _ _ _ _ _ _
      | exact LeO.none _
      | refine LeO.ite ?_ ?_
      | refine LeO.bind ?_ (fun _ => ?_)
theorem chargeparklaw12_ChargerSilence.mono : ∀ a0 a1 a2 a3 a4 a5 a6 a7 a8 a9 a10 a11 k, LeO (chargeparklaw12_ChargerSilence.f k a0 a1 a2 a3 a4 a5 a6 a7 a8 a9 a10 a11) (chargeparklaw12_ChargerSilence.f (k + 1) a0 a1 a2 a3 a4 a5 a6 a7 a8 a9 a10 a11) := by
  intro a0 a1 a2 a3 a4 a5 a6 a7 a8 a9 a10 a11 k
  obtain ⟨ih0, ih1, ih2⟩ := chargeparklaw12_ChargerSilence.mono_l k
  unfold chargeparklaw12_ChargerSilence.f
  repeat' first
      | (with_reducible exact ih0 _ _ _ _ _ _ _ _ _ _ _ _ _ _)
      | (with_reducible exact ih1 _ _ _ _ _ _ _ _ _ _ _ _ _)
      | (with_reducible exact ih2 _ _ _ _ _ _ _ _ _ _ _ _ _ _ _)
      | (with_reducible exact chargeparkref12_Valid.mono _ _ _ _ _ _ _ _ _ _ _ _ _)
      | (with_reducible exact LeO.refl _)
      | (with_reducible exact LeO.none _)
      | (with_reducible refine LeO.ite ?_ ?_)
      | (with_reducible refine LeO.bind ?_ (fun _ => ?_))
      | exact ih0 _ _ _ _ _ _ _ _ _ _ _ _ _ _
      | exact ih1 _ _ _ _ _ _ _ _ _ _ _ _ _
      | exact ih2 _ _ _ _ _ _ _ _ _ _ _ _ _ _ _
      | exact chargeparkref12_Valid.mono _ _ _ _ _ _ _ _ _ _ _ _ _
      | exact LeO.none _
      | refine LeO.ite ?_ ?_
      | refine LeO.bind ?_ (fun _ => ?_)
def chargeparklaw12_ChargerSilence.T15 : Bool × List (List Nat × List Nat) := (true, [([], []), ([0], [0]), ([1], [1]), ([1], [1]), ([2, 3, 1, 1], [1, 2, 3]), ([1], [1]), ([5, 1], [1, 5]), ([4, 6, 1], [1, 4, 6]), ([1, 7], [1, 7]), ([8, 4, 0, 1, 2, 3, 4, 5, 6, 7, 8], [8])])
def chargeparklaw12_ChargerSilence.B15 : List Nat := [0, 1, 3, 3, 15, 3, 35, 127, 255, 511]
theorem chargeparklaw12_ChargerSilence.tab15 : rtab .any (opsOf Tryd.f8 15) = chargeparklaw12_ChargerSilence.T15 := by kernel_rfl
theorem chargeparklaw12_ChargerSilence.bits15 : waitsOk chargeparklaw12_ChargerSilence.T15.2 chargeparklaw12_ChargerSilence.B15 = true := by kernel_rfl
set_option maxHeartbeats 8000000 in
set_option maxRecDepth 100000 in
theorem chargeparklaw12_ChargerSilence.calls (k : Nat) (a0_0 : ByteArray) (a0_1 : Int) (a0_2 : Int) (a0_3 : Int) (a0_4 : Int) (a0_5 : Int) (a0_6 : Int) (a0_7 : Int) (a1_0 : Int) (a1_1 : Int) (a1_2 : Int) (a1_3 : Bool) (r : Bool) (w : World) (hG : Hand.G w) (h : chargeparklaw12_ChargerSilence.f k a0_0 a0_1 a0_2 a0_3 a0_4 a0_5 a0_6 a0_7 a1_0 a1_1 a1_2 a1_3 = some r) (hr : Aside0 (r = true)) :
    Calls Tryd.prog 8 #[.agg #[.string a0_0, .int .i64 a0_1, .int .i64 a0_2, .int .i64 a0_3, .int .i64 a0_4, .int .i64 a0_5, .int .i64 a0_6, .int .i64 a0_7], .agg #[.int .i64 a1_0, .int .i64 a1_1, .int .i64 a1_2, .bool a1_3]] w fun e w' => e = .returned (.bool r) ∧ Below w.heap.size w w' := by
  have hu23 := Tryd.underlying23
  have hu25 := Tryd.underlying25
  have hu27 := Tryd.underlying27
  have HB := Aside0.mk (Below.refl w.heap.size w)
  have H : ((chargeparklaw12_head_c.f).bind fun _ => ((chargeparkref12_Valid.f k a0_0 a0_1 a0_2 a0_3 a0_4 a0_5 a0_6 a0_7 a1_0 a1_1 a1_2 a1_3).bind fun t312 => (if t312 = true then (if a1_3 = true then (chargeparklaw12_ChargerSilence.j0 k true true a0_0 a0_1 a0_2 a0_3 a0_4 a0_5 a0_6 a0_7 a1_0 a1_1 a1_2 a1_3) else (chargeparklaw12_ChargerSilence.j0 k true (decide (a1_2 > 300)) a0_0 a0_1 a0_2 a0_3 a0_4 a0_5 a0_6 a0_7 a1_0 a1_1 a1_2 a1_3)) else (chargeparklaw12_ChargerSilence.j0 k true true a0_0 a0_1 a0_2 a0_3 a0_4 a0_5 a0_6 a0_7 a1_0 a1_1 a1_2 a1_3)))) = some r := h
  clear h
  replace H := Option.bind_eq_some_iff.mp H
  obtain ⟨tc_, A30, H⟩ := H
  obtain rfl : true = tc_ := Option.some.inj ((show chargeparklaw12_head_c.f = some true by kernel_rfl).symm.trans A30)
  replace H : ((chargeparkref12_Valid.f k a0_0 a0_1 a0_2 a0_3 a0_4 a0_5 a0_6 a0_7 a1_0 a1_1 a1_2 a1_3).bind fun t312 => (if t312 = true then (if a1_3 = true then (chargeparklaw12_ChargerSilence.j0 k true true a0_0 a0_1 a0_2 a0_3 a0_4 a0_5 a0_6 a0_7 a1_0 a1_1 a1_2 a1_3) else (chargeparklaw12_ChargerSilence.j0 k true (decide (a1_2 > 300)) a0_0 a0_1 a0_2 a0_3 a0_4 a0_5 a0_6 a0_7 a1_0 a1_1 a1_2 a1_3)) else (chargeparklaw12_ChargerSilence.j0 k true true a0_0 a0_1 a0_2 a0_3 a0_4 a0_5 a0_6 a0_7 a1_0 a1_1 a1_2 a1_3))) = some r := H
  have A3 := Aside0.mk A30
  clear A30
  replace H := Option.bind_eq_some_iff.mp H
  obtain ⟨t312, A40, H⟩ := H
  replace H : (if t312 = true then (if a1_3 = true then (chargeparklaw12_ChargerSilence.j0 k true true a0_0 a0_1 a0_2 a0_3 a0_4 a0_5 a0_6 a0_7 a1_0 a1_1 a1_2 a1_3) else (chargeparklaw12_ChargerSilence.j0 k true (decide (a1_2 > 300)) a0_0 a0_1 a0_2 a0_3 a0_4 a0_5 a0_6 a0_7 a1_0 a1_1 a1_2 a1_3)) else (chargeparklaw12_ChargerSilence.j0 k true true a0_0 a0_1 a0_2 a0_3 a0_4 a0_5 a0_6 a0_7 a1_0 a1_1 a1_2 a1_3)) = some r := H
  have A4 := Aside0.mk A40
  clear A40
  have HC5 := Aside0.mk H
  clear H
  go_enter Tryd.func8, Tryd.ntmps8
  go_upto_region 3 with (first | ((with_reducible refine gate_dst (N := 2) rfl ?_); refine box_event ?hg (N := 2) ?hd (cs := #[.string a0_0, .int .i64 a0_1, .int .i64 a0_2, .int .i64 a0_3, .int .i64 a0_4, .int .i64 a0_5, .int .i64 a0_6, .int .i64 a0_7]) (t := 23) ?hr ?_; (case hd => rfl); (case hg => rfl); (case hr => first | (go_simp; done) | (go_simp; rfl)); intro gb310 hg w6 hbox hb; have n0_ := Aside0.mk (below_step (by repeat (first | (with_reducible first | exact HB.out | apply below_alloc | apply pw_below_drewN | apply below_drew1) | exact HB.out)) hb); have n1_ := Aside0.mk (hbox); have n2_ := Aside0.mk ((by rw [hg]; exact (below_size (by repeat (first | (with_reducible first | exact HB.out | apply below_alloc | apply pw_below_drewN | apply below_drew1) | exact HB.out))) : w.heap.size ≤ gb310)); have n3_ := Aside0.mk ((by rw [hg]; exact (below_size (by repeat (first | (with_reducible first | exact HB.out | apply below_alloc | apply pw_below_drewN | apply below_drew1) | exact HB.out))) : w.heap.size ≤ gb310)); clear HB; have HB := n0_; have BK310 := n1_; have GW310 := n2_; have GE310 := n3_; clear n0_ n1_ n2_ n3_; clear hb hbox hg) | ((with_reducible refine gate_dst (N := 3) rfl ?_); refine box_event ?hg (N := 3) ?hd (cs := #[.int .i64 a1_0, .int .i64 a1_1, .int .i64 a1_2, .bool a1_3]) (t := 25) ?hr ?_; (case hd => rfl); (case hg => rfl); (case hr => first | (go_simp; done) | (go_simp; rfl)); intro gb311 hg w7 hbox hb; have n0_ := Aside0.mk (blk_below (g := gb310) (o := .cells #[.string a0_0, .int .i64 a0_1, .int .i64 a0_2, .int .i64 a0_3, .int .i64 a0_4, .int .i64 a0_5, .int .i64 a0_6, .int .i64 a0_7] 23 (0, 0)) (by (with_reducible repeat (first | refine blk_drewN ?_ _ | refine blk_drew ?_ | refine blk_alloc ?_ _)); exact BK310.out) hb); have n1_ := Aside0.mk (below_step (by repeat (first | (with_reducible first | exact HB.out | apply below_alloc | apply pw_below_drewN | apply below_drew1 | refine below_set ?_ GE310.out) | exact HB.out)) hb); have n2_ := Aside0.mk (hbox); have n3_ := Aside0.mk ((by rw [hg]; exact (below_size (by repeat (first | (with_reducible first | exact HB.out | apply below_alloc | apply pw_below_drewN | apply below_drew1 | refine below_set ?_ GE310.out) | exact HB.out))) : w.heap.size ≤ gb311)); have n4_ := Aside0.mk ((by rw [hg]; exact (below_size (by repeat (first | (with_reducible first | exact HB.out | apply below_alloc | apply pw_below_drewN | apply below_drew1 | refine below_set ?_ GE310.out) | exact HB.out))) : w.heap.size ≤ gb311)); have n5_ := Aside0.mk ((by rw [hg]; exact Nat.ne_of_lt (blk_lt (g := gb310) (o := .cells #[.string a0_0, .int .i64 a0_1, .int .i64 a0_2, .int .i64 a0_3, .int .i64 a0_4, .int .i64 a0_5, .int .i64 a0_6, .int .i64 a0_7] 23 (0, 0)) (by (with_reducible repeat (first | refine blk_drewN ?_ _ | refine blk_drew ?_ | refine blk_alloc ?_ _)); exact BK310.out)) : gb310 ≠ gb311)); have n6_ := Aside0.mk ((by rw [hg]; exact Nat.ne_of_gt (blk_lt (g := gb310) (o := .cells #[.string a0_0, .int .i64 a0_1, .int .i64 a0_2, .int .i64 a0_3, .int .i64 a0_4, .int .i64 a0_5, .int .i64 a0_6, .int .i64 a0_7] 23 (0, 0)) (by (with_reducible repeat (first | refine blk_drewN ?_ _ | refine blk_drew ?_ | refine blk_alloc ?_ _)); exact BK310.out)) : gb311 ≠ gb310)); clear BK310; clear HB; have BK310 := n0_; have HB := n1_; have BK311 := n2_; have GW311 := n3_; have GE311 := n4_; have NB310_311 := n5_; have NB311_310 := n6_; clear n0_ n1_ n2_ n3_ n4_ n5_ n6_; clear hb hbox hg) | ((with_reducible refine gate_callee (f := 10) rfl ?_); refine goesL_ (some 13) rfl rfl Tryd.func10 (by kernel_rfl) rfl #[] rfl (by (try simp only [List.map_toArray, List.map_cons, List.map_nil]); first | done | rfl | (simp only [List.length_drop, List.length_take]; rfl)) ?_; (with_reducible refine (chargeparklaw12_head_c.calls  true _ (hG.below (by repeat (first | (with_reducible first | exact HB.out | apply below_alloc | apply pw_below_drewN | apply below_drew1) | exact HB.out | (refine Below.setCell ?_ (Aside0.out (by assumption)) _)))) A3.out).mono ?_); rintro e w8 ⟨rfl, hb⟩; refine ⟨_, rfl, ?_⟩; have n0_ := Aside0.mk (blk_below (g := gb310) (o := .cells #[.string a0_0, .int .i64 a0_1, .int .i64 a0_2, .int .i64 a0_3, .int .i64 a0_4, .int .i64 a0_5, .int .i64 a0_6, .int .i64 a0_7] 23 (0, 0)) (by (with_reducible repeat (first | refine blk_drewN ?_ _ | refine blk_drew ?_ | refine blk_alloc ?_ _)); exact BK310.out) hb); have n1_ := Aside0.mk (blk_below (g := gb311) (o := .cells #[.int .i64 a1_0, .int .i64 a1_1, .int .i64 a1_2, .bool a1_3] 25 (0, 0)) (by (with_reducible repeat (first | refine blk_drewN ?_ _ | refine blk_drew ?_ | refine blk_alloc ?_ _)); exact BK311.out) hb); have n2_ := Aside0.mk (below_step (by repeat (first | (with_reducible first | exact HB.out | apply below_alloc | apply pw_below_drewN | apply below_drew1 | refine below_set ?_ GE310.out | refine below_set ?_ GE311.out) | exact HB.out)) hb); clear BK310; clear BK311; clear HB; have BK310 := n0_; have BK311 := n1_; have HB := n2_; clear n0_ n1_ n2_; (try clear hb); (try clear hb2); (try clear hk); (try clear hi); have hnb9 := NB310_311.out; have hnc9 := NB311_310.out; have hcz10_0 : w8.cell? ⟨gb310, 0, none⟩ = some (.string a0_0) := (blk_cell BK310.out 0).trans rfl; have hcz10_1 : w8.cell? ⟨gb310, 1, none⟩ = some (.int .i64 a0_1) := (blk_cell BK310.out 1).trans rfl; have hcz10_2 : w8.cell? ⟨gb310, 2, none⟩ = some (.int .i64 a0_2) := (blk_cell BK310.out 2).trans rfl; have hcz10_3 : w8.cell? ⟨gb310, 3, none⟩ = some (.int .i64 a0_3) := (blk_cell BK310.out 3).trans rfl; have hcz10_4 : w8.cell? ⟨gb310, 4, none⟩ = some (.int .i64 a0_4) := (blk_cell BK310.out 4).trans rfl; have hcz10_5 : w8.cell? ⟨gb310, 5, none⟩ = some (.int .i64 a0_5) := (blk_cell BK310.out 5).trans rfl; have hcz10_6 : w8.cell? ⟨gb310, 6, none⟩ = some (.int .i64 a0_6) := (blk_cell BK310.out 6).trans rfl; have hcz10_7 : w8.cell? ⟨gb310, 7, none⟩ = some (.int .i64 a0_7) := (blk_cell BK310.out 7).trans rfl; have hfz10_0 := blk_frozen BK310.out 0; have hfz10_1 := blk_frozen BK310.out 1; have hfz10_2 := blk_frozen BK310.out 2; have hfz10_3 := blk_frozen BK310.out 3; have hfz10_4 := blk_frozen BK310.out 4; have hfz10_5 := blk_frozen BK310.out 5; have hfz10_6 := blk_frozen BK310.out 6; have hfz10_7 := blk_frozen BK310.out 7; have hcz11_0 : w8.cell? ⟨gb311, 0, none⟩ = some (.int .i64 a1_0) := (blk_cell BK311.out 0).trans rfl; have hcz11_1 : w8.cell? ⟨gb311, 1, none⟩ = some (.int .i64 a1_1) := (blk_cell BK311.out 1).trans rfl; have hcz11_2 : w8.cell? ⟨gb311, 2, none⟩ = some (.int .i64 a1_2) := (blk_cell BK311.out 2).trans rfl; have hcz11_3 : w8.cell? ⟨gb311, 3, none⟩ = some (.bool a1_3) := (blk_cell BK311.out 3).trans rfl; have hfz11_0 := blk_frozen BK311.out 0; have hfz11_1 := blk_frozen BK311.out 1; have hfz11_2 := blk_frozen BK311.out 2; have hfz11_3 := blk_frozen BK311.out 3) | ((with_reducible refine gate_callee (f := 14) rfl ?_); refine goesL_ (some 16) rfl rfl Tryd.func14 (by kernel_rfl) rfl #[.agg #[.string a0_0, .int .i64 a0_1, .int .i64 a0_2, .int .i64 a0_3, .int .i64 a0_4, .int .i64 a0_5, .int .i64 a0_6, .int .i64 a0_7], .agg #[.int .i64 a1_0, .int .i64 a1_1, .int .i64 a1_2, .bool a1_3]] rfl (by (try simp only [List.map_toArray, List.map_cons, List.map_nil]); first | done | rfl | (simp only [List.length_drop, List.length_take]; rfl)) ?_; (with_reducible refine (chargeparkref12_Valid.calls k a0_0 a0_1 a0_2 a0_3 a0_4 a0_5 a0_6 a0_7 a1_0 a1_1 a1_2 a1_3 t312 _ A4.out).mono ?_); rintro e w12 ⟨rfl, hb⟩; refine ⟨_, rfl, ?_⟩; have n0_ := Aside0.mk (blk_below (g := gb310) (o := .cells #[.string a0_0, .int .i64 a0_1, .int .i64 a0_2, .int .i64 a0_3, .int .i64 a0_4, .int .i64 a0_5, .int .i64 a0_6, .int .i64 a0_7] 23 (0, 0)) (by (with_reducible repeat (first | refine blk_drewN ?_ _ | refine blk_drew ?_ | refine blk_alloc ?_ _)); exact BK310.out) hb); have n1_ := Aside0.mk (blk_below (g := gb311) (o := .cells #[.int .i64 a1_0, .int .i64 a1_1, .int .i64 a1_2, .bool a1_3] 25 (0, 0)) (by (with_reducible repeat (first | refine blk_drewN ?_ _ | refine blk_drew ?_ | refine blk_alloc ?_ _)); exact BK311.out) hb); have n2_ := Aside0.mk (below_step (by repeat (first | (with_reducible first | exact HB.out | apply below_alloc | apply pw_below_drewN | apply below_drew1 | refine below_set ?_ GE310.out | refine below_set ?_ GE311.out) | exact HB.out)) hb); clear BK310; clear BK311; clear HB; have BK310 := n0_; have BK311 := n1_; have HB := n2_; clear n0_ n1_ n2_; (try clear hb); (try clear hb2); (try clear hk); (try clear hi)))
  (try simp only [Act.put, List.setIfInBounds_toArray, List.set_cons_zero, List.set_cons_succ])
  go_cut [27] (fun v27 wc => ∃ (kq : Nat) (x27_4 : Bool), v27 = .bool x27_4 ∧ Aside0 (chargeparklaw12_ChargerSilence.j0 kq true x27_4 a0_0 a0_1 a0_2 a0_3 a0_4 a0_5 a0_6 a0_7 a1_0 a1_1 a1_2 a1_3 = some r) ∧ Aside0 (kq ≤ k) ∧ Aside0 (wc.heap[gb310]? = some (.cells #[.string a0_0, .int .i64 a0_1, .int .i64 a0_2, .int .i64 a0_3, .int .i64 a0_4, .int .i64 a0_5, .int .i64 a0_6, .int .i64 a0_7] 23 (0, 0))) ∧ Aside0 (wc.heap[gb311]? = some (.cells #[.int .i64 a1_0, .int .i64 a1_1, .int .i64 a1_2, .bool a1_3] 25 (0, 0))) ∧ Aside0 (Below w.heap.size w wc))
  case first =>
    have H := HC5.out
    clear HC5
    by_cases c13 : t312 = true
    · subst c13
      have H1 : (if a1_3 = true then (chargeparklaw12_ChargerSilence.j0 k true true a0_0 a0_1 a0_2 a0_3 a0_4 a0_5 a0_6 a0_7 a1_0 a1_1 a1_2 a1_3) else (chargeparklaw12_ChargerSilence.j0 k true (decide (a1_2 > 300)) a0_0 a0_1 a0_2 a0_3 a0_4 a0_5 a0_6 a0_7 a1_0 a1_1 a1_2 a1_3)) = some r := by rw [if_pos rfl] at H; exact H
      clear H
      have H := H1
      clear H1
      by_cases c14 : a1_3 = true
      · subst c14
        have H1 : (chargeparklaw12_ChargerSilence.j0 k true true a0_0 a0_1 a0_2 a0_3 a0_4 a0_5 a0_6 a0_7 a1_0 a1_1 a1_2 true) = some r := by rw [if_pos rfl] at H; exact H
        clear H
        have H := H1
        clear H1
        have H' := Aside0.mk H
        clear H
        have hnb15 := NB311_310.out
        have hnc15 := NB310_311.out
        have hcz16_0 : w12.cell? ⟨gb311, 0, none⟩ = some (.int .i64 a1_0) := (blk_cell BK311.out 0).trans rfl
        have hcz16_1 : w12.cell? ⟨gb311, 1, none⟩ = some (.int .i64 a1_1) := (blk_cell BK311.out 1).trans rfl
        have hcz16_2 : w12.cell? ⟨gb311, 2, none⟩ = some (.int .i64 a1_2) := (blk_cell BK311.out 2).trans rfl
        have hcz16_3 : w12.cell? ⟨gb311, 3, none⟩ = some (.bool true) := (blk_cell BK311.out 3).trans rfl
        have hfz16_0 := blk_frozen BK311.out 0
        have hfz16_1 := blk_frozen BK311.out 1
        have hfz16_2 := blk_frozen BK311.out 2
        have hfz16_3 := blk_frozen BK311.out 3
        go_wp2
        go_meet
        case rel => exact ⟨_, (true), (by first | rfl | (simp; done) | (simp [*]; done)), H', ⟨by first | omega | exact Nat.le_refl _⟩, ⟨by (with_reducible repeat (first | refine blk_drewN ?_ _ | refine blk_drew ?_ | refine blk_alloc ?_ _)); exact BK310.out⟩, ⟨by (with_reducible repeat (first | refine blk_drewN ?_ _ | refine blk_drew ?_ | refine blk_alloc ?_ _)); exact BK311.out⟩, ⟨by repeat (first | (with_reducible first | exact HB.out | apply below_alloc | apply pw_below_drewN | apply below_drew1 | refine below_set ?_ GE310.out | refine below_set ?_ GE311.out) | exact HB.out)⟩⟩
      · replace c14 := Bool.eq_false_iff.mpr c14
        subst c14
        have H1 : (chargeparklaw12_ChargerSilence.j0 k true (decide (a1_2 > 300)) a0_0 a0_1 a0_2 a0_3 a0_4 a0_5 a0_6 a0_7 a1_0 a1_1 a1_2 false) = some r := by rw [if_neg (show ¬ (false = true) by decide)] at H; exact H
        clear H
        have H := H1
        clear H1
        have H' := Aside0.mk H
        clear H
        have hnb17 := NB311_310.out
        have hnc17 := NB310_311.out
        have hcz18_0 : w12.cell? ⟨gb311, 0, none⟩ = some (.int .i64 a1_0) := (blk_cell BK311.out 0).trans rfl
        have hcz18_1 : w12.cell? ⟨gb311, 1, none⟩ = some (.int .i64 a1_1) := (blk_cell BK311.out 1).trans rfl
        have hcz18_2 : w12.cell? ⟨gb311, 2, none⟩ = some (.int .i64 a1_2) := (blk_cell BK311.out 2).trans rfl
        have hcz18_3 : w12.cell? ⟨gb311, 3, none⟩ = some (.bool false) := (blk_cell BK311.out 3).trans rfl
        have hfz18_0 := blk_frozen BK311.out 0
        have hfz18_1 := blk_frozen BK311.out 1
        have hfz18_2 := blk_frozen BK311.out 2
        have hfz18_3 := blk_frozen BK311.out 3
        go_wp2
        go_meet
        case rel => exact ⟨_, (decide (a1_2 > 300)), (by first | rfl | (simp; done) | (simp [*]; done)), H', ⟨by first | omega | exact Nat.le_refl _⟩, ⟨by (with_reducible repeat (first | refine blk_drewN ?_ _ | refine blk_drew ?_ | refine blk_alloc ?_ _)); exact BK310.out⟩, ⟨by (with_reducible repeat (first | refine blk_drewN ?_ _ | refine blk_drew ?_ | refine blk_alloc ?_ _)); exact BK311.out⟩, ⟨by repeat (first | (with_reducible first | exact HB.out | apply below_alloc | apply pw_below_drewN | apply below_drew1 | refine below_set ?_ GE310.out | refine below_set ?_ GE311.out) | exact HB.out)⟩⟩
    · replace c13 := Bool.eq_false_iff.mpr c13
      subst c13
      have H1 : (chargeparklaw12_ChargerSilence.j0 k true true a0_0 a0_1 a0_2 a0_3 a0_4 a0_5 a0_6 a0_7 a1_0 a1_1 a1_2 a1_3) = some r := by rw [if_neg (show ¬ (false = true) by decide)] at H; exact H
      clear H
      have H := H1
      clear H1
      have H' := Aside0.mk H
      clear H
      go_wp2
      go_meet
      case rel => exact ⟨_, (true), (by first | rfl | (simp; done) | (simp [*]; done)), H', ⟨by first | omega | exact Nat.le_refl _⟩, ⟨by (with_reducible repeat (first | refine blk_drewN ?_ _ | refine blk_drew ?_ | refine blk_alloc ?_ _)); exact BK310.out⟩, ⟨by (with_reducible repeat (first | refine blk_drewN ?_ _ | refine blk_drew ?_ | refine blk_alloc ?_ _)); exact BK311.out⟩, ⟨by repeat (first | (with_reducible first | exact HB.out | apply below_alloc | apply pw_below_drewN | apply below_drew1 | refine below_set ?_ GE310.out | refine below_set ?_ GE311.out) | exact HB.out)⟩⟩
  case rest =>
    clear HC5
    try clear c1
    try clear p2
    try clear c8
    try clear c9
    try clear c10
    try clear c13
    try clear c14
    try clear c15
    try clear c17
    try clear hcz10_0
    try clear hcz10_1
    try clear hcz10_2
    try clear hcz10_3
    try clear hcz10_4
    try clear hcz10_5
    try clear hcz10_6
    try clear hcz10_7
    try clear hcz11_0
    try clear hcz11_1
    try clear hcz11_2
    try clear hcz11_3
    try clear hcz16_0
    try clear hcz16_1
    try clear hcz16_2
    try clear hcz16_3
    try clear hcz18_0
    try clear hcz18_1
    try clear hcz18_2
    try clear hcz18_3
    try clear hfz10_0
    try clear hfz10_1
    try clear hfz10_2
    try clear hfz10_3
    try clear hfz10_4
    try clear hfz10_5
    try clear hfz10_6
    try clear hfz10_7
    try clear hfz11_0
    try clear hfz11_1
    try clear hfz11_2
    try clear hfz11_3
    try clear hfz16_0
    try clear hfz16_1
    try clear hfz16_2
    try clear hfz16_3
    try clear hfz18_0
    try clear hfz18_1
    try clear hfz18_2
    try clear hfz18_3
    obtain ⟨kq, x27_4, rfl, HA, HJ4, BK310, BK311, HB⟩ := hcut
    cases kq with
    | zero => exact absurd HA.out (by simp [chargeparklaw12_ChargerSilence.j0])
    | succ kj4 =>
      have H := HA.out
      clear HA
      simp only [chargeparklaw12_ChargerSilence.j0] at H
      by_cases c19 : x27_4 = true
      · subst c19
        have H1 : (some true) = some r := by rw [if_pos rfl] at H; exact H
        clear H
        have H := H1
        clear H1
        obtain rfl := Option.some.inj H
        simp only [Option.some.injEq, Prod.mk.injEq] at H
        obtain ⟨rfl⟩ := H
        go_wp2
        go_ret
        exact ⟨by first | rfl | (simp [errW_none, errW_some] <;> rfl) | (simp [*, errW_none, errW_some] <;> rfl), by repeat (first | (with_reducible first | exact HB.out | apply below_alloc | apply pw_below_drewN | apply below_drew1 | refine below_set ?_ GE310.out | refine below_set ?_ GE311.out) | exact HB.out)⟩
      · replace c19 := Bool.eq_false_iff.mpr c19
        subst c19
        have H1 : ((charger_Step.f a0_0 a0_1 a0_2 a0_3 a0_4 a0_5 a0_6 a0_7 a1_0 a1_1 a1_2 a1_3 9 0 0).bind fun bt313 => (if true = true then (if bt313.2.2.2.2 = 0 then (if bt313.1 = 4 then (chargeparklaw12_ChargerSilence.j1 kj4 false a0_0 a0_1 a0_2 a0_3 a0_4 a0_5 a0_6 a0_7 a1_0 a1_1 a1_2 a1_3) else (if bt313.2.2.1 = 0 then ((charger_Allowed.f a0_0 a0_1 a0_2 a0_3 a0_4 a0_5 a0_6 a0_7 bt313.1 bt313.2.1 bt313.2.2.1 bt313.2.2.2.1).bind fun t319 => (chargeparklaw12_ChargerSilence.j1 kj4 (t319 == 0) a0_0 a0_1 a0_2 a0_3 a0_4 a0_5 a0_6 a0_7 a1_0 a1_1 a1_2 a1_3)) else (chargeparklaw12_ChargerSilence.j1 kj4 false a0_0 a0_1 a0_2 a0_3 a0_4 a0_5 a0_6 a0_7 a1_0 a1_1 a1_2 a1_3))) else (chargeparklaw12_ChargerSilence.j1 kj4 false a0_0 a0_1 a0_2 a0_3 a0_4 a0_5 a0_6 a0_7 a1_0 a1_1 a1_2 a1_3)) else (chargeparklaw12_ChargerSilence.j1 kj4 false a0_0 a0_1 a0_2 a0_3 a0_4 a0_5 a0_6 a0_7 a1_0 a1_1 a1_2 a1_3))) = some r := by rw [if_neg (show ¬ (false = true) by decide)] at H; exact H
        clear H
        have H := H1
        clear H1
        replace H := Option.bind_eq_some_iff.mp H
        obtain ⟨⟨t313, t314, t315, t316, t317⟩, A200, H⟩ := H
        replace H : (if true = true then (if t317 = 0 then (if t313 = 4 then (chargeparklaw12_ChargerSilence.j1 kj4 false a0_0 a0_1 a0_2 a0_3 a0_4 a0_5 a0_6 a0_7 a1_0 a1_1 a1_2 a1_3) else (if t315 = 0 then ((charger_Allowed.f a0_0 a0_1 a0_2 a0_3 a0_4 a0_5 a0_6 a0_7 t313 t314 t315 t316).bind fun t319 => (chargeparklaw12_ChargerSilence.j1 kj4 (t319 == 0) a0_0 a0_1 a0_2 a0_3 a0_4 a0_5 a0_6 a0_7 a1_0 a1_1 a1_2 a1_3)) else (chargeparklaw12_ChargerSilence.j1 kj4 false a0_0 a0_1 a0_2 a0_3 a0_4 a0_5 a0_6 a0_7 a1_0 a1_1 a1_2 a1_3))) else (chargeparklaw12_ChargerSilence.j1 kj4 false a0_0 a0_1 a0_2 a0_3 a0_4 a0_5 a0_6 a0_7 a1_0 a1_1 a1_2 a1_3)) else (chargeparklaw12_ChargerSilence.j1 kj4 false a0_0 a0_1 a0_2 a0_3 a0_4 a0_5 a0_6 a0_7 a1_0 a1_1 a1_2 a1_3)) = some r := H
        have A20 := Aside0.mk A200
        clear A200
        have HC21 := Aside0.mk H
        clear H
        have hnb22 := NB310_311.out
        have hnc22 := NB311_310.out
        have hcz23_0 : wc.cell? ⟨gb310, 0, none⟩ = some (.string a0_0) := (blk_cell BK310.out 0).trans rfl
        have hcz23_1 : wc.cell? ⟨gb310, 1, none⟩ = some (.int .i64 a0_1) := (blk_cell BK310.out 1).trans rfl
        have hcz23_2 : wc.cell? ⟨gb310, 2, none⟩ = some (.int .i64 a0_2) := (blk_cell BK310.out 2).trans rfl
        have hcz23_3 : wc.cell? ⟨gb310, 3, none⟩ = some (.int .i64 a0_3) := (blk_cell BK310.out 3).trans rfl
        have hcz23_4 : wc.cell? ⟨gb310, 4, none⟩ = some (.int .i64 a0_4) := (blk_cell BK310.out 4).trans rfl
        have hcz23_5 : wc.cell? ⟨gb310, 5, none⟩ = some (.int .i64 a0_5) := (blk_cell BK310.out 5).trans rfl
        have hcz23_6 : wc.cell? ⟨gb310, 6, none⟩ = some (.int .i64 a0_6) := (blk_cell BK310.out 6).trans rfl
        have hcz23_7 : wc.cell? ⟨gb310, 7, none⟩ = some (.int .i64 a0_7) := (blk_cell BK310.out 7).trans rfl
        have hfz23_0 := blk_frozen BK310.out 0
        have hfz23_1 := blk_frozen BK310.out 1
        have hfz23_2 := blk_frozen BK310.out 2
        have hfz23_3 := blk_frozen BK310.out 3
        have hfz23_4 := blk_frozen BK310.out 4
        have hfz23_5 := blk_frozen BK310.out 5
        have hfz23_6 := blk_frozen BK310.out 6
        have hfz23_7 := blk_frozen BK310.out 7
        have hcz24_0 : wc.cell? ⟨gb311, 0, none⟩ = some (.int .i64 a1_0) := (blk_cell BK311.out 0).trans rfl
        have hcz24_1 : wc.cell? ⟨gb311, 1, none⟩ = some (.int .i64 a1_1) := (blk_cell BK311.out 1).trans rfl
        have hcz24_2 : wc.cell? ⟨gb311, 2, none⟩ = some (.int .i64 a1_2) := (blk_cell BK311.out 2).trans rfl
        have hcz24_3 : wc.cell? ⟨gb311, 3, none⟩ = some (.bool a1_3) := (blk_cell BK311.out 3).trans rfl
        have hfz24_0 := blk_frozen BK311.out 0
        have hfz24_1 := blk_frozen BK311.out 1
        have hfz24_2 := blk_frozen BK311.out 2
        have hfz24_3 := blk_frozen BK311.out 3
        go_upto_region 6 with (first | ((with_reducible refine gate_callee (f := 11) rfl ?_); refine goesL_ (some 33) rfl rfl Tryd.func11 (by kernel_rfl) rfl #[.agg #[.string a0_0, .int .i64 a0_1, .int .i64 a0_2, .int .i64 a0_3, .int .i64 a0_4, .int .i64 a0_5, .int .i64 a0_6, .int .i64 a0_7], .agg #[.int .i64 a1_0, .int .i64 a1_1, .int .i64 a1_2, .bool a1_3], .agg #[.int .i64 9, .int .i64 0, .int .i64 0]] rfl (by (try simp only [List.map_toArray, List.map_cons, List.map_nil]); first | done | rfl | (simp only [List.length_drop, List.length_take]; rfl)) ?_; (with_reducible refine (charger_Step.calls a0_0 a0_1 a0_2 a0_3 a0_4 a0_5 a0_6 a0_7 a1_0 a1_1 a1_2 a1_3 9 0 0 t313 t314 t315 t316 t317 _ (hG.below (by repeat (first | (with_reducible first | exact HB.out | apply below_alloc | apply pw_below_drewN | apply below_drew1) | exact HB.out | (refine Below.setCell ?_ (Aside0.out (by assumption)) _)))) A20.out).mono ?_); rintro e w25 ⟨rfl, hb⟩; refine ⟨_, rfl, ?_⟩; have n0_ := Aside0.mk (blk_below (g := gb310) (o := .cells #[.string a0_0, .int .i64 a0_1, .int .i64 a0_2, .int .i64 a0_3, .int .i64 a0_4, .int .i64 a0_5, .int .i64 a0_6, .int .i64 a0_7] 23 (0, 0)) (by (with_reducible repeat (first | refine blk_drewN ?_ _ | refine blk_drew ?_ | refine blk_alloc ?_ _)); exact BK310.out) hb); have n1_ := Aside0.mk (blk_below (g := gb311) (o := .cells #[.int .i64 a1_0, .int .i64 a1_1, .int .i64 a1_2, .bool a1_3] 25 (0, 0)) (by (with_reducible repeat (first | refine blk_drewN ?_ _ | refine blk_drew ?_ | refine blk_alloc ?_ _)); exact BK311.out) hb); have n2_ := Aside0.mk (below_step (by repeat (first | (with_reducible first | exact HB.out | apply below_alloc | apply pw_below_drewN | apply below_drew1 | refine below_set ?_ GE310.out | refine below_set ?_ GE311.out) | exact HB.out)) hb); clear BK310; clear BK311; clear HB; have BK310 := n0_; have BK311 := n1_; have HB := n2_; clear n0_ n1_ n2_; (try clear hb); (try clear hb2); (try clear hk); (try clear hi)) | ((with_reducible refine gate_dst (N := 7) rfl ?_); refine box_event ?hg (N := 7) ?hd (cs := #[.int .i64 0, .int .i64 0, .int .i64 0, .bool false]) (t := 25) ?hr ?_; (case hd => rfl); (case hg => rfl); (case hr => first | (go_simp; done) | (go_simp; rfl)); intro gb318 hg w26 hbox hb; have n0_ := Aside0.mk (blk_below (g := gb310) (o := .cells #[.string a0_0, .int .i64 a0_1, .int .i64 a0_2, .int .i64 a0_3, .int .i64 a0_4, .int .i64 a0_5, .int .i64 a0_6, .int .i64 a0_7] 23 (0, 0)) (by (with_reducible repeat (first | refine blk_drewN ?_ _ | refine blk_drew ?_ | refine blk_alloc ?_ _)); exact BK310.out) hb); have n1_ := Aside0.mk (blk_below (g := gb311) (o := .cells #[.int .i64 a1_0, .int .i64 a1_1, .int .i64 a1_2, .bool a1_3] 25 (0, 0)) (by (with_reducible repeat (first | refine blk_drewN ?_ _ | refine blk_drew ?_ | refine blk_alloc ?_ _)); exact BK311.out) hb); have n2_ := Aside0.mk (below_step (by repeat (first | (with_reducible first | exact HB.out | apply below_alloc | apply pw_below_drewN | apply below_drew1 | refine below_set ?_ GE310.out | refine below_set ?_ GE311.out) | exact HB.out)) hb); have n3_ := Aside0.mk (hbox); have n4_ := Aside0.mk ((by rw [hg]; exact (below_size (by repeat (first | (with_reducible first | exact HB.out | apply below_alloc | apply pw_below_drewN | apply below_drew1 | refine below_set ?_ GE310.out | refine below_set ?_ GE311.out) | exact HB.out))) : w.heap.size ≤ gb318)); have n5_ := Aside0.mk ((by rw [hg]; exact (below_size (by repeat (first | (with_reducible first | exact HB.out | apply below_alloc | apply pw_below_drewN | apply below_drew1 | refine below_set ?_ GE310.out | refine below_set ?_ GE311.out) | exact HB.out))) : w.heap.size ≤ gb318)); have n6_ := Aside0.mk ((by rw [hg]; exact Nat.ne_of_lt (blk_lt (g := gb310) (o := .cells #[.string a0_0, .int .i64 a0_1, .int .i64 a0_2, .int .i64 a0_3, .int .i64 a0_4, .int .i64 a0_5, .int .i64 a0_6, .int .i64 a0_7] 23 (0, 0)) (by (with_reducible repeat (first | refine blk_drewN ?_ _ | refine blk_drew ?_ | refine blk_alloc ?_ _)); exact BK310.out)) : gb310 ≠ gb318)); have n7_ := Aside0.mk ((by rw [hg]; exact Nat.ne_of_gt (blk_lt (g := gb310) (o := .cells #[.string a0_0, .int .i64 a0_1, .int .i64 a0_2, .int .i64 a0_3, .int .i64 a0_4, .int .i64 a0_5, .int .i64 a0_6, .int .i64 a0_7] 23 (0, 0)) (by (with_reducible repeat (first | refine blk_drewN ?_ _ | refine blk_drew ?_ | refine blk_alloc ?_ _)); exact BK310.out)) : gb318 ≠ gb310)); have n8_ := Aside0.mk ((by rw [hg]; exact Nat.ne_of_lt (blk_lt (g := gb311) (o := .cells #[.int .i64 a1_0, .int .i64 a1_1, .int .i64 a1_2, .bool a1_3] 25 (0, 0)) (by (with_reducible repeat (first | refine blk_drewN ?_ _ | refine blk_drew ?_ | refine blk_alloc ?_ _)); exact BK311.out)) : gb311 ≠ gb318)); have n9_ := Aside0.mk ((by rw [hg]; exact Nat.ne_of_gt (blk_lt (g := gb311) (o := .cells #[.int .i64 a1_0, .int .i64 a1_1, .int .i64 a1_2, .bool a1_3] 25 (0, 0)) (by (with_reducible repeat (first | refine blk_drewN ?_ _ | refine blk_drew ?_ | refine blk_alloc ?_ _)); exact BK311.out)) : gb318 ≠ gb311)); clear BK310; clear BK311; clear HB; have BK310 := n0_; have BK311 := n1_; have HB := n2_; have BK318 := n3_; have GW318 := n4_; have GE318 := n5_; have NB310_318 := n6_; have NB318_310 := n7_; have NB311_318 := n8_; have NB318_311 := n9_; clear n0_ n1_ n2_ n3_ n4_ n5_ n6_ n7_ n8_ n9_; clear hb hbox hg; have hnb27 := NB318_310.out; have hnc27 := NB310_318.out; have hnb28 := NB318_311.out; have hnc28 := NB311_318.out; have hcz29_0 : w26.cell? ⟨gb318, 0, none⟩ = some (.int .i64 0) := (blk_cell BK318.out 0).trans rfl; have hcz29_1 : w26.cell? ⟨gb318, 1, none⟩ = some (.int .i64 0) := (blk_cell BK318.out 1).trans rfl; have hcz29_2 : w26.cell? ⟨gb318, 2, none⟩ = some (.int .i64 0) := (blk_cell BK318.out 2).trans rfl; have hcz29_3 : w26.cell? ⟨gb318, 3, none⟩ = some (.bool false) := (blk_cell BK318.out 3).trans rfl; have hfz29_0 := blk_frozen BK318.out 0; have hfz29_1 := blk_frozen BK318.out 1; have hfz29_2 := blk_frozen BK318.out 2; have hfz29_3 := blk_frozen BK318.out 3))
        (try simp only [Act.put, List.setIfInBounds_toArray, List.set_cons_zero, List.set_cons_succ])
        go_cut [5] (fun v5 wc => ∃ (kq : Nat) (x5_20 : Bool), v5 = .bool x5_20 ∧ Aside0 (chargeparklaw12_ChargerSilence.j1 kq x5_20 a0_0 a0_1 a0_2 a0_3 a0_4 a0_5 a0_6 a0_7 a1_0 a1_1 a1_2 a1_3 = some r) ∧ Aside0 (kq ≤ kj4) ∧ Aside0 (wc.heap[gb310]? = some (.cells #[.string a0_0, .int .i64 a0_1, .int .i64 a0_2, .int .i64 a0_3, .int .i64 a0_4, .int .i64 a0_5, .int .i64 a0_6, .int .i64 a0_7] 23 (0, 0))) ∧ Aside0 (wc.heap[gb311]? = some (.cells #[.int .i64 a1_0, .int .i64 a1_1, .int .i64 a1_2, .bool a1_3] 25 (0, 0))) ∧ Aside0 (wc.heap[gb318]? = some (.cells #[.int .i64 t313, .int .i64 t314, .int .i64 t315, .bool t316] 25 (0, 0))) ∧ Aside0 (Below w.heap.size w wc))
        case first =>
          have H := HC21.out
          clear HC21
          by_cases c30 : (true = true)
          · clear c30
            have H1 : (if t317 = 0 then (if t313 = 4 then (chargeparklaw12_ChargerSilence.j1 kj4 false a0_0 a0_1 a0_2 a0_3 a0_4 a0_5 a0_6 a0_7 a1_0 a1_1 a1_2 a1_3) else (if t315 = 0 then ((charger_Allowed.f a0_0 a0_1 a0_2 a0_3 a0_4 a0_5 a0_6 a0_7 t313 t314 t315 t316).bind fun t319 => (chargeparklaw12_ChargerSilence.j1 kj4 (t319 == 0) a0_0 a0_1 a0_2 a0_3 a0_4 a0_5 a0_6 a0_7 a1_0 a1_1 a1_2 a1_3)) else (chargeparklaw12_ChargerSilence.j1 kj4 false a0_0 a0_1 a0_2 a0_3 a0_4 a0_5 a0_6 a0_7 a1_0 a1_1 a1_2 a1_3))) else (chargeparklaw12_ChargerSilence.j1 kj4 false a0_0 a0_1 a0_2 a0_3 a0_4 a0_5 a0_6 a0_7 a1_0 a1_1 a1_2 a1_3)) = some r := by rw [if_pos rfl] at H; exact H
            clear H
            have H := H1
            clear H1
            by_cases c31 : t317 = 0
            · rw [if_pos c31] at H
              have c31b0 : (t317 == 0) = true := beq_iff_eq.mpr c31
              have c31b1 : (t317 != 0) = false := bne_eq_false_iff_eq.mpr c31
              clear c31
              (first | rw [c31b0] | (simp only [i64_w, i32_w]; rw [c31b0]) | skip)
              by_cases c32 : t313 = 4
              · rw [if_pos c32] at H
                have c32b0 : (t313 == 4) = true := beq_iff_eq.mpr c32
                have c32b1 : (t313 != 4) = false := bne_eq_false_iff_eq.mpr c32
                clear c32
                have H' := Aside0.mk H
                clear H
                have hnb33 := NB318_310.out
                have hnc33 := NB310_318.out
                have hnb34 := NB318_311.out
                have hnc34 := NB311_318.out
                have hcz35_0 : w26.cell? ⟨gb318, 0, none⟩ = some (.int .i64 0) := (blk_cell BK318.out 0).trans rfl
                have hcz35_1 : w26.cell? ⟨gb318, 1, none⟩ = some (.int .i64 0) := (blk_cell BK318.out 1).trans rfl
                have hcz35_2 : w26.cell? ⟨gb318, 2, none⟩ = some (.int .i64 0) := (blk_cell BK318.out 2).trans rfl
                have hcz35_3 : w26.cell? ⟨gb318, 3, none⟩ = some (.bool false) := (blk_cell BK318.out 3).trans rfl
                have hfz35_0 := blk_frozen BK318.out 0
                have hfz35_1 := blk_frozen BK318.out 1
                have hfz35_2 := blk_frozen BK318.out 2
                have hfz35_3 := blk_frozen BK318.out 3
                go_wp2
                go_meet
                case rel => exact ⟨_, (false), (by first | rfl | (simp; done) | (simp [*]; done)), H', ⟨by have := HJ4.out; first | omega | exact Nat.le_refl _⟩, ⟨by (with_reducible repeat (first | refine blk_drewN ?_ _ | refine blk_drew ?_ | refine blk_alloc ?_ _)); refine blk_far ?_ NB310_318.out _; (with_reducible repeat (first | refine blk_drewN ?_ _ | refine blk_drew ?_ | refine blk_alloc ?_ _)); refine blk_far ?_ NB310_318.out _; (with_reducible repeat (first | refine blk_drewN ?_ _ | refine blk_drew ?_ | refine blk_alloc ?_ _)); refine blk_far ?_ NB310_318.out _; (with_reducible repeat (first | refine blk_drewN ?_ _ | refine blk_drew ?_ | refine blk_alloc ?_ _)); refine blk_far ?_ NB310_318.out _; (with_reducible repeat (first | refine blk_drewN ?_ _ | refine blk_drew ?_ | refine blk_alloc ?_ _)); exact BK310.out⟩, ⟨by (with_reducible repeat (first | refine blk_drewN ?_ _ | refine blk_drew ?_ | refine blk_alloc ?_ _)); refine blk_far ?_ NB311_318.out _; (with_reducible repeat (first | refine blk_drewN ?_ _ | refine blk_drew ?_ | refine blk_alloc ?_ _)); refine blk_far ?_ NB311_318.out _; (with_reducible repeat (first | refine blk_drewN ?_ _ | refine blk_drew ?_ | refine blk_alloc ?_ _)); refine blk_far ?_ NB311_318.out _; (with_reducible repeat (first | refine blk_drewN ?_ _ | refine blk_drew ?_ | refine blk_alloc ?_ _)); refine blk_far ?_ NB311_318.out _; (with_reducible repeat (first | refine blk_drewN ?_ _ | refine blk_drew ?_ | refine blk_alloc ?_ _)); exact BK311.out⟩, ⟨by (with_reducible repeat (first | refine blk_drewN ?_ _ | refine blk_drew ?_ | refine blk_alloc ?_ _)); refine blk_put (cs := #[.int .i64 t313, .int .i64 t314, .int .i64 t315, .bool false]) ?_ 3 _ rfl; (with_reducible repeat (first | refine blk_drewN ?_ _ | refine blk_drew ?_ | refine blk_alloc ?_ _)); refine blk_put (cs := #[.int .i64 t313, .int .i64 t314, .int .i64 0, .bool false]) ?_ 2 _ rfl; (with_reducible repeat (first | refine blk_drewN ?_ _ | refine blk_drew ?_ | refine blk_alloc ?_ _)); refine blk_put (cs := #[.int .i64 t313, .int .i64 0, .int .i64 0, .bool false]) ?_ 1 _ rfl; (with_reducible repeat (first | refine blk_drewN ?_ _ | refine blk_drew ?_ | refine blk_alloc ?_ _)); refine blk_put (cs := #[.int .i64 0, .int .i64 0, .int .i64 0, .bool false]) ?_ 0 _ rfl; (with_reducible repeat (first | refine blk_drewN ?_ _ | refine blk_drew ?_ | refine blk_alloc ?_ _)); exact BK318.out⟩, ⟨by repeat (first | (with_reducible first | exact HB.out | apply below_alloc | apply pw_below_drewN | apply below_drew1 | refine below_set ?_ GE310.out | refine below_set ?_ GE311.out | refine below_set ?_ GE318.out) | exact HB.out)⟩⟩
              · rw [if_neg c32] at H
                have c32b0 : (t313 == 4) = false := beq_eq_false_iff_ne.mpr c32
                have c32b1 : (t313 != 4) = true := bne_iff_ne.mpr c32
                by_cases c36 : t315 = 0
                · rw [if_pos c36] at H
                  have c36b0 : (t315 == 0) = true := beq_iff_eq.mpr c36
                  have c36b1 : (t315 != 0) = false := bne_eq_false_iff_eq.mpr c36
                  clear c36
                  replace H := Option.bind_eq_some_iff.mp H
                  obtain ⟨t319, A370, H⟩ := H
                  replace H : (chargeparklaw12_ChargerSilence.j1 kj4 (t319 == 0) a0_0 a0_1 a0_2 a0_3 a0_4 a0_5 a0_6 a0_7 a1_0 a1_1 a1_2 a1_3) = some r := H
                  have A37 := Aside0.mk A370
                  clear A370
                  have H' := Aside0.mk H
                  clear H
                  have hnb38 := NB318_310.out
                  have hnc38 := NB310_318.out
                  have hnb39 := NB318_311.out
                  have hnc39 := NB311_318.out
                  have hcz40_0 : w26.cell? ⟨gb318, 0, none⟩ = some (.int .i64 0) := (blk_cell BK318.out 0).trans rfl
                  have hcz40_1 : w26.cell? ⟨gb318, 1, none⟩ = some (.int .i64 0) := (blk_cell BK318.out 1).trans rfl
                  have hcz40_2 : w26.cell? ⟨gb318, 2, none⟩ = some (.int .i64 0) := (blk_cell BK318.out 2).trans rfl
                  have hcz40_3 : w26.cell? ⟨gb318, 3, none⟩ = some (.bool false) := (blk_cell BK318.out 3).trans rfl
                  have hfz40_0 := blk_frozen BK318.out 0
                  have hfz40_1 := blk_frozen BK318.out 1
                  have hfz40_2 := blk_frozen BK318.out 2
                  have hfz40_3 := blk_frozen BK318.out 3
                  have hnb41 := NB310_311.out
                  have hnc41 := NB311_310.out
                  have hcz42_0 : w26.cell? ⟨gb310, 0, none⟩ = some (.string a0_0) := (blk_cell BK310.out 0).trans rfl
                  have hcz42_1 : w26.cell? ⟨gb310, 1, none⟩ = some (.int .i64 a0_1) := (blk_cell BK310.out 1).trans rfl
                  have hcz42_2 : w26.cell? ⟨gb310, 2, none⟩ = some (.int .i64 a0_2) := (blk_cell BK310.out 2).trans rfl
                  have hcz42_3 : w26.cell? ⟨gb310, 3, none⟩ = some (.int .i64 a0_3) := (blk_cell BK310.out 3).trans rfl
                  have hcz42_4 : w26.cell? ⟨gb310, 4, none⟩ = some (.int .i64 a0_4) := (blk_cell BK310.out 4).trans rfl
                  have hcz42_5 : w26.cell? ⟨gb310, 5, none⟩ = some (.int .i64 a0_5) := (blk_cell BK310.out 5).trans rfl
                  have hcz42_6 : w26.cell? ⟨gb310, 6, none⟩ = some (.int .i64 a0_6) := (blk_cell BK310.out 6).trans rfl
                  have hcz42_7 : w26.cell? ⟨gb310, 7, none⟩ = some (.int .i64 a0_7) := (blk_cell BK310.out 7).trans rfl
                  have hfz42_0 := blk_frozen BK310.out 0
                  have hfz42_1 := blk_frozen BK310.out 1
                  have hfz42_2 := blk_frozen BK310.out 2
                  have hfz42_3 := blk_frozen BK310.out 3
                  have hfz42_4 := blk_frozen BK310.out 4
                  have hfz42_5 := blk_frozen BK310.out 5
                  have hfz42_6 := blk_frozen BK310.out 6
                  have hfz42_7 := blk_frozen BK310.out 7
                  go_wp2_with (first | (go_at_call 15; (with_reducible refine (charger_Allowed.calls a0_0 a0_1 a0_2 a0_3 a0_4 a0_5 a0_6 a0_7 t313 t314 t315 t316 t319 _ A37.out).mono ?_); rintro e w43 ⟨rfl, hb⟩; have n0_ := Aside0.mk (blk_below (g := gb310) (o := .cells #[.string a0_0, .int .i64 a0_1, .int .i64 a0_2, .int .i64 a0_3, .int .i64 a0_4, .int .i64 a0_5, .int .i64 a0_6, .int .i64 a0_7] 23 (0, 0)) (by (with_reducible repeat (first | refine blk_drewN ?_ _ | refine blk_drew ?_ | refine blk_alloc ?_ _)); refine blk_far ?_ NB310_318.out _; (with_reducible repeat (first | refine blk_drewN ?_ _ | refine blk_drew ?_ | refine blk_alloc ?_ _)); refine blk_far ?_ NB310_318.out _; (with_reducible repeat (first | refine blk_drewN ?_ _ | refine blk_drew ?_ | refine blk_alloc ?_ _)); refine blk_far ?_ NB310_318.out _; (with_reducible repeat (first | refine blk_drewN ?_ _ | refine blk_drew ?_ | refine blk_alloc ?_ _)); refine blk_far ?_ NB310_318.out _; (with_reducible repeat (first | refine blk_drewN ?_ _ | refine blk_drew ?_ | refine blk_alloc ?_ _)); exact BK310.out) hb); have n1_ := Aside0.mk (blk_below (g := gb311) (o := .cells #[.int .i64 a1_0, .int .i64 a1_1, .int .i64 a1_2, .bool a1_3] 25 (0, 0)) (by (with_reducible repeat (first | refine blk_drewN ?_ _ | refine blk_drew ?_ | refine blk_alloc ?_ _)); refine blk_far ?_ NB311_318.out _; (with_reducible repeat (first | refine blk_drewN ?_ _ | refine blk_drew ?_ | refine blk_alloc ?_ _)); refine blk_far ?_ NB311_318.out _; (with_reducible repeat (first | refine blk_drewN ?_ _ | refine blk_drew ?_ | refine blk_alloc ?_ _)); refine blk_far ?_ NB311_318.out _; (with_reducible repeat (first | refine blk_drewN ?_ _ | refine blk_drew ?_ | refine blk_alloc ?_ _)); refine blk_far ?_ NB311_318.out _; (with_reducible repeat (first | refine blk_drewN ?_ _ | refine blk_drew ?_ | refine blk_alloc ?_ _)); exact BK311.out) hb); have n2_ := Aside0.mk (blk_below (g := gb318) (o := .cells #[.int .i64 t313, .int .i64 t314, .int .i64 t315, .bool t316] 25 (0, 0)) (by (with_reducible repeat (first | refine blk_drewN ?_ _ | refine blk_drew ?_ | refine blk_alloc ?_ _)); refine blk_put (cs := #[.int .i64 t313, .int .i64 t314, .int .i64 t315, .bool false]) ?_ 3 _ rfl; (with_reducible repeat (first | refine blk_drewN ?_ _ | refine blk_drew ?_ | refine blk_alloc ?_ _)); refine blk_put (cs := #[.int .i64 t313, .int .i64 t314, .int .i64 0, .bool false]) ?_ 2 _ rfl; (with_reducible repeat (first | refine blk_drewN ?_ _ | refine blk_drew ?_ | refine blk_alloc ?_ _)); refine blk_put (cs := #[.int .i64 t313, .int .i64 0, .int .i64 0, .bool false]) ?_ 1 _ rfl; (with_reducible repeat (first | refine blk_drewN ?_ _ | refine blk_drew ?_ | refine blk_alloc ?_ _)); refine blk_put (cs := #[.int .i64 0, .int .i64 0, .int .i64 0, .bool false]) ?_ 0 _ rfl; (with_reducible repeat (first | refine blk_drewN ?_ _ | refine blk_drew ?_ | refine blk_alloc ?_ _)); exact BK318.out) hb); have n3_ := Aside0.mk (below_step (by repeat (first | (with_reducible first | exact HB.out | apply below_alloc | apply pw_below_drewN | apply below_drew1 | refine below_set ?_ GE310.out | refine below_set ?_ GE311.out | refine below_set ?_ GE318.out) | exact HB.out)) hb); clear BK310; clear BK311; clear BK318; clear HB; have BK310 := n0_; have BK311 := n1_; have BK318 := n2_; have HB := n3_; clear n0_ n1_ n2_ n3_; (try clear hb); (try clear hb2); (try clear hk); (try clear hi)))
                  go_meet
                  case rel => exact ⟨_, ((t319 == 0)), (by first | rfl | (simp; done) | (simp [*]; done)), H', ⟨by have := HJ4.out; first | omega | exact Nat.le_refl _⟩, ⟨by (with_reducible repeat (first | refine blk_drewN ?_ _ | refine blk_drew ?_ | refine blk_alloc ?_ _)); exact BK310.out⟩, ⟨by (with_reducible repeat (first | refine blk_drewN ?_ _ | refine blk_drew ?_ | refine blk_alloc ?_ _)); exact BK311.out⟩, ⟨by (with_reducible repeat (first | refine blk_drewN ?_ _ | refine blk_drew ?_ | refine blk_alloc ?_ _)); exact BK318.out⟩, ⟨by repeat (first | (with_reducible first | exact HB.out | apply below_alloc | apply pw_below_drewN | apply below_drew1 | refine below_set ?_ GE310.out | refine below_set ?_ GE311.out | refine below_set ?_ GE318.out) | exact HB.out)⟩⟩
                · rw [if_neg c36] at H
                  have c36b0 : (t315 == 0) = false := beq_eq_false_iff_ne.mpr c36
                  have c36b1 : (t315 != 0) = true := bne_iff_ne.mpr c36
                  have H' := Aside0.mk H
                  clear H
                  have hnb44 := NB318_310.out
                  have hnc44 := NB310_318.out
                  have hnb45 := NB318_311.out
                  have hnc45 := NB311_318.out
                  have hcz46_0 : w26.cell? ⟨gb318, 0, none⟩ = some (.int .i64 0) := (blk_cell BK318.out 0).trans rfl
                  have hcz46_1 : w26.cell? ⟨gb318, 1, none⟩ = some (.int .i64 0) := (blk_cell BK318.out 1).trans rfl
                  have hcz46_2 : w26.cell? ⟨gb318, 2, none⟩ = some (.int .i64 0) := (blk_cell BK318.out 2).trans rfl
                  have hcz46_3 : w26.cell? ⟨gb318, 3, none⟩ = some (.bool false) := (blk_cell BK318.out 3).trans rfl
                  have hfz46_0 := blk_frozen BK318.out 0
                  have hfz46_1 := blk_frozen BK318.out 1
                  have hfz46_2 := blk_frozen BK318.out 2
                  have hfz46_3 := blk_frozen BK318.out 3
                  go_wp2
                  go_meet
                  case rel => exact ⟨_, (false), (by first | rfl | (simp; done) | (simp [*]; done)), H', ⟨by have := HJ4.out; first | omega | exact Nat.le_refl _⟩, ⟨by (with_reducible repeat (first | refine blk_drewN ?_ _ | refine blk_drew ?_ | refine blk_alloc ?_ _)); refine blk_far ?_ NB310_318.out _; (with_reducible repeat (first | refine blk_drewN ?_ _ | refine blk_drew ?_ | refine blk_alloc ?_ _)); refine blk_far ?_ NB310_318.out _; (with_reducible repeat (first | refine blk_drewN ?_ _ | refine blk_drew ?_ | refine blk_alloc ?_ _)); refine blk_far ?_ NB310_318.out _; (with_reducible repeat (first | refine blk_drewN ?_ _ | refine blk_drew ?_ | refine blk_alloc ?_ _)); refine blk_far ?_ NB310_318.out _; (with_reducible repeat (first | refine blk_drewN ?_ _ | refine blk_drew ?_ | refine blk_alloc ?_ _)); exact BK310.out⟩, ⟨by (with_reducible repeat (first | refine blk_drewN ?_ _ | refine blk_drew ?_ | refine blk_alloc ?_ _)); refine blk_far ?_ NB311_318.out _; (with_reducible repeat (first | refine blk_drewN ?_ _ | refine blk_drew ?_ | refine blk_alloc ?_ _)); refine blk_far ?_ NB311_318.out _; (with_reducible repeat (first | refine blk_drewN ?_ _ | refine blk_drew ?_ | refine blk_alloc ?_ _)); refine blk_far ?_ NB311_318.out _; (with_reducible repeat (first | refine blk_drewN ?_ _ | refine blk_drew ?_ | refine blk_alloc ?_ _)); refine blk_far ?_ NB311_318.out _; (with_reducible repeat (first | refine blk_drewN ?_ _ | refine blk_drew ?_ | refine blk_alloc ?_ _)); exact BK311.out⟩, ⟨by (with_reducible repeat (first | refine blk_drewN ?_ _ | refine blk_drew ?_ | refine blk_alloc ?_ _)); refine blk_put (cs := #[.int .i64 t313, .int .i64 t314, .int .i64 t315, .bool false]) ?_ 3 _ rfl; (with_reducible repeat (first | refine blk_drewN ?_ _ | refine blk_drew ?_ | refine blk_alloc ?_ _)); refine blk_put (cs := #[.int .i64 t313, .int .i64 t314, .int .i64 0, .bool false]) ?_ 2 _ rfl; (with_reducible repeat (first | refine blk_drewN ?_ _ | refine blk_drew ?_ | refine blk_alloc ?_ _)); refine blk_put (cs := #[.int .i64 t313, .int .i64 0, .int .i64 0, .bool false]) ?_ 1 _ rfl; (with_reducible repeat (first | refine blk_drewN ?_ _ | refine blk_drew ?_ | refine blk_alloc ?_ _)); refine blk_put (cs := #[.int .i64 0, .int .i64 0, .int .i64 0, .bool false]) ?_ 0 _ rfl; (with_reducible repeat (first | refine blk_drewN ?_ _ | refine blk_drew ?_ | refine blk_alloc ?_ _)); exact BK318.out⟩, ⟨by repeat (first | (with_reducible first | exact HB.out | apply below_alloc | apply pw_below_drewN | apply below_drew1 | refine below_set ?_ GE310.out | refine below_set ?_ GE311.out | refine below_set ?_ GE318.out) | exact HB.out)⟩⟩
            · rw [if_neg c31] at H
              have c31b0 : (t317 == 0) = false := beq_eq_false_iff_ne.mpr c31
              have c31b1 : (t317 != 0) = true := bne_iff_ne.mpr c31
              (first | rw [c31b0] | (simp only [i64_w, i32_w]; rw [c31b0]) | skip)
              have H' := Aside0.mk H
              clear H
              go_wp2
              go_meet
              case rel => exact ⟨_, (false), (by first | rfl | (simp; done) | (simp [*]; done)), H', ⟨by have := HJ4.out; first | omega | exact Nat.le_refl _⟩, ⟨by (with_reducible repeat (first | refine blk_drewN ?_ _ | refine blk_drew ?_ | refine blk_alloc ?_ _)); refine blk_far ?_ NB310_318.out _; (with_reducible repeat (first | refine blk_drewN ?_ _ | refine blk_drew ?_ | refine blk_alloc ?_ _)); refine blk_far ?_ NB310_318.out _; (with_reducible repeat (first | refine blk_drewN ?_ _ | refine blk_drew ?_ | refine blk_alloc ?_ _)); refine blk_far ?_ NB310_318.out _; (with_reducible repeat (first | refine blk_drewN ?_ _ | refine blk_drew ?_ | refine blk_alloc ?_ _)); refine blk_far ?_ NB310_318.out _; (with_reducible repeat (first | refine blk_drewN ?_ _ | refine blk_drew ?_ | refine blk_alloc ?_ _)); exact BK310.out⟩, ⟨by (with_reducible repeat (first | refine blk_drewN ?_ _ | refine blk_drew ?_ | refine blk_alloc ?_ _)); refine blk_far ?_ NB311_318.out _; (with_reducible repeat (first | refine blk_drewN ?_ _ | refine blk_drew ?_ | refine blk_alloc ?_ _)); refine blk_far ?_ NB311_318.out _; (with_reducible repeat (first | refine blk_drewN ?_ _ | refine blk_drew ?_ | refine blk_alloc ?_ _)); refine blk_far ?_ NB311_318.out _; (with_reducible repeat (first | refine blk_drewN ?_ _ | refine blk_drew ?_ | refine blk_alloc ?_ _)); refine blk_far ?_ NB311_318.out _; (with_reducible repeat (first | refine blk_drewN ?_ _ | refine blk_drew ?_ | refine blk_alloc ?_ _)); exact BK311.out⟩, ⟨by (with_reducible repeat (first | refine blk_drewN ?_ _ | refine blk_drew ?_ | refine blk_alloc ?_ _)); refine blk_put (cs := #[.int .i64 t313, .int .i64 t314, .int .i64 t315, .bool false]) ?_ 3 _ rfl; (with_reducible repeat (first | refine blk_drewN ?_ _ | refine blk_drew ?_ | refine blk_alloc ?_ _)); refine blk_put (cs := #[.int .i64 t313, .int .i64 t314, .int .i64 0, .bool false]) ?_ 2 _ rfl; (with_reducible repeat (first | refine blk_drewN ?_ _ | refine blk_drew ?_ | refine blk_alloc ?_ _)); refine blk_put (cs := #[.int .i64 t313, .int .i64 0, .int .i64 0, .bool false]) ?_ 1 _ rfl; (with_reducible repeat (first | refine blk_drewN ?_ _ | refine blk_drew ?_ | refine blk_alloc ?_ _)); refine blk_put (cs := #[.int .i64 0, .int .i64 0, .int .i64 0, .bool false]) ?_ 0 _ rfl; (with_reducible repeat (first | refine blk_drewN ?_ _ | refine blk_drew ?_ | refine blk_alloc ?_ _)); exact BK318.out⟩, ⟨by repeat (first | (with_reducible first | exact HB.out | apply below_alloc | apply pw_below_drewN | apply below_drew1 | refine below_set ?_ GE310.out | refine below_set ?_ GE311.out | refine below_set ?_ GE318.out) | exact HB.out)⟩⟩
          · exact absurd rfl c30
        case rest =>
          clear HC21
          try clear c1
          try clear c2
          try clear p2
          try clear c3
          try clear c4
          try clear c8
          try clear c9
          try clear c10
          try clear c11
          try clear c13
          try clear c14
          try clear c15
          try clear c17
          try clear c19
          try clear c22
          try clear c27
          try clear c28
          try clear c30
          try clear c31
          try clear c31b0
          try clear c31b1
          try clear c32
          try clear c32b0
          try clear c32b1
          try clear c33
          try clear c34
          try clear c36
          try clear c36b0
          try clear c36b1
          try clear c38
          try clear c39
          try clear c41
          try clear c44
          try clear c45
          try clear hcz10_0
          try clear hcz10_1
          try clear hcz10_2
          try clear hcz10_3
          try clear hcz10_4
          try clear hcz10_5
          try clear hcz10_6
          try clear hcz10_7
          try clear hcz11_0
          try clear hcz11_1
          try clear hcz11_2
          try clear hcz11_3
          try clear hcz16_0
          try clear hcz16_1
          try clear hcz16_2
          try clear hcz16_3
          try clear hcz18_0
          try clear hcz18_1
          try clear hcz18_2
          try clear hcz18_3
          try clear hcz23_0
          try clear hcz23_1
          try clear hcz23_2
          try clear hcz23_3
          try clear hcz23_4
          try clear hcz23_5
          try clear hcz23_6
          try clear hcz23_7
          try clear hcz24_0
          try clear hcz24_1
          try clear hcz24_2
          try clear hcz24_3
          try clear hcz29_0
          try clear hcz29_1
          try clear hcz29_2
          try clear hcz29_3
          try clear hcz35_0
          try clear hcz35_1
          try clear hcz35_2
          try clear hcz35_3
          try clear hcz40_0
          try clear hcz40_1
          try clear hcz40_2
          try clear hcz40_3
          try clear hcz42_0
          try clear hcz42_1
          try clear hcz42_2
          try clear hcz42_3
          try clear hcz42_4
          try clear hcz42_5
          try clear hcz42_6
          try clear hcz42_7
          try clear hcz46_0
          try clear hcz46_1
          try clear hcz46_2
          try clear hcz46_3
          try clear hfz10_0
          try clear hfz10_1
          try clear hfz10_2
          try clear hfz10_3
          try clear hfz10_4
          try clear hfz10_5
          try clear hfz10_6
          try clear hfz10_7
          try clear hfz11_0
          try clear hfz11_1
          try clear hfz11_2
          try clear hfz11_3
          try clear hfz16_0
          try clear hfz16_1
          try clear hfz16_2
          try clear hfz16_3
          try clear hfz18_0
          try clear hfz18_1
          try clear hfz18_2
          try clear hfz18_3
          try clear hfz23_0
          try clear hfz23_1
          try clear hfz23_2
          try clear hfz23_3
          try clear hfz23_4
          try clear hfz23_5
          try clear hfz23_6
          try clear hfz23_7
          try clear hfz24_0
          try clear hfz24_1
          try clear hfz24_2
          try clear hfz24_3
          try clear hfz29_0
          try clear hfz29_1
          try clear hfz29_2
          try clear hfz29_3
          try clear hfz35_0
          try clear hfz35_1
          try clear hfz35_2
          try clear hfz35_3
          try clear hfz40_0
          try clear hfz40_1
          try clear hfz40_2
          try clear hfz40_3
          try clear hfz42_0
          try clear hfz42_1
          try clear hfz42_2
          try clear hfz42_3
          try clear hfz42_4
          try clear hfz42_5
          try clear hfz42_6
          try clear hfz42_7
          try clear hfz46_0
          try clear hfz46_1
          try clear hfz46_2
          try clear hfz46_3
          try clear p2
          obtain ⟨kq, x5_20, rfl, HA, HJ20, BK310, BK311, BK318, HB⟩ := hcut
          cases kq with
          | zero => exact absurd HA.out (by simp [chargeparklaw12_ChargerSilence.j1])
          | succ kj20 =>
            have H := HA.out
            clear HA
            simp only [chargeparklaw12_ChargerSilence.j1] at H
            have H' := Aside0.mk H
            clear H
            have hnb47 := NB311_310.out
            have hnc47 := NB310_311.out
            have hnb48 := NB311_318.out
            have hnc48 := NB318_311.out
            have hcz49_0 : wc.cell? ⟨gb311, 0, none⟩ = some (.int .i64 a1_0) := (blk_cell BK311.out 0).trans rfl
            have hcz49_1 : wc.cell? ⟨gb311, 1, none⟩ = some (.int .i64 a1_1) := (blk_cell BK311.out 1).trans rfl
            have hcz49_2 : wc.cell? ⟨gb311, 2, none⟩ = some (.int .i64 a1_2) := (blk_cell BK311.out 2).trans rfl
            have hcz49_3 : wc.cell? ⟨gb311, 3, none⟩ = some (.bool a1_3) := (blk_cell BK311.out 3).trans rfl
            have hfz49_0 := blk_frozen BK311.out 0
            have hfz49_1 := blk_frozen BK311.out 1
            have hfz49_2 := blk_frozen BK311.out 2
            have hfz49_3 := blk_frozen BK311.out 3
            go_wp2
            go_loopg [10] kj20 (fun kq v10 w' => ∃ (x10_3 : Int) (x312000_3 : Int) (x312001_3 : Int) (x312002_3 : Int) (x312003_3 : Bool), v10 = .int .i64 x10_3 ∧ Aside0 (chargeparklaw12_ChargerSilence.l0 kq x5_20 a1_2 x10_3 a0_0 a0_1 a0_2 a0_3 a0_4 a0_5 a0_6 a0_7 x312000_3 x312001_3 x312002_3 x312003_3 = some r) ∧ Aside0 (kq ≤ kj20) ∧ Aside0 (w'.heap[gb310]? = some (.cells #[.string a0_0, .int .i64 a0_1, .int .i64 a0_2, .int .i64 a0_3, .int .i64 a0_4, .int .i64 a0_5, .int .i64 a0_6, .int .i64 a0_7] 23 (0, 0))) ∧ Aside0 (w'.heap[gb311]? = some (.cells #[.int .i64 x312000_3, .int .i64 x312001_3, .int .i64 x312002_3, .bool x312003_3] 25 (0, 0))) ∧ Aside0 (w'.heap[gb318]? = some (.cells #[.int .i64 t313, .int .i64 t314, .int .i64 t315, .bool t316] 25 (0, 0))) ∧ Aside0 (Below w.heap.size w w'))
            case atStart => exact ⟨(0), (a1_0), (a1_1), (a1_2), (a1_3), (by first | rfl | (simp; done) | (simp [*]; done)), H', ⟨Nat.le_refl _⟩, ⟨by (with_reducible repeat (first | refine blk_drewN ?_ _ | refine blk_drew ?_ | refine blk_alloc ?_ _)); exact BK310.out⟩, ⟨by (with_reducible repeat (first | refine blk_drewN ?_ _ | refine blk_drew ?_ | refine blk_alloc ?_ _)); exact BK311.out⟩, ⟨by (with_reducible repeat (first | refine blk_drewN ?_ _ | refine blk_drew ?_ | refine blk_alloc ?_ _)); exact BK318.out⟩, ⟨by repeat (first | (with_reducible first | exact HB.out | apply below_alloc | apply pw_below_drewN | apply below_drew1 | refine below_set ?_ GE310.out | refine below_set ?_ GE311.out | refine below_set ?_ GE318.out) | exact HB.out)⟩⟩
            case round =>
              clear H'
              try clear c1
              try clear c2
              try clear p2
              try clear c3
              try clear c4
              try clear c8
              try clear c9
              try clear c10
              try clear c11
              try clear c13
              try clear c14
              try clear c15
              try clear c17
              try clear c19
              try clear c22
              try clear c27
              try clear c28
              try clear c30
              try clear c31
              try clear c31b0
              try clear c31b1
              try clear c32
              try clear c32b0
              try clear c32b1
              try clear c33
              try clear c34
              try clear c36
              try clear c36b0
              try clear c36b1
              try clear c38
              try clear c39
              try clear c41
              try clear c44
              try clear c45
              try clear c47
              try clear c48
              try clear hcz10_0
              try clear hcz10_1
              try clear hcz10_2
              try clear hcz10_3
              try clear hcz10_4
              try clear hcz10_5
              try clear hcz10_6
              try clear hcz10_7
              try clear hcz11_0
              try clear hcz11_1
              try clear hcz11_2
              try clear hcz11_3
              try clear hcz16_0
              try clear hcz16_1
              try clear hcz16_2
              try clear hcz16_3
              try clear hcz18_0
              try clear hcz18_1
              try clear hcz18_2
              try clear hcz18_3
              try clear hcz23_0
              try clear hcz23_1
              try clear hcz23_2
              try clear hcz23_3
              try clear hcz23_4
              try clear hcz23_5
              try clear hcz23_6
              try clear hcz23_7
              try clear hcz24_0
              try clear hcz24_1
              try clear hcz24_2
              try clear hcz24_3
              try clear hcz29_0
              try clear hcz29_1
              try clear hcz29_2
              try clear hcz29_3
              try clear hcz35_0
              try clear hcz35_1
              try clear hcz35_2
              try clear hcz35_3
              try clear hcz40_0
              try clear hcz40_1
              try clear hcz40_2
              try clear hcz40_3
              try clear hcz42_0
              try clear hcz42_1
              try clear hcz42_2
              try clear hcz42_3
              try clear hcz42_4
              try clear hcz42_5
              try clear hcz42_6
              try clear hcz42_7
              try clear hcz46_0
              try clear hcz46_1
              try clear hcz46_2
              try clear hcz46_3
              try clear hcz49_0
              try clear hcz49_1
              try clear hcz49_2
              try clear hcz49_3
              try clear hfz10_0
              try clear hfz10_1
              try clear hfz10_2
              try clear hfz10_3
              try clear hfz10_4
              try clear hfz10_5
              try clear hfz10_6
              try clear hfz10_7
              try clear hfz11_0
              try clear hfz11_1
              try clear hfz11_2
              try clear hfz11_3
              try clear hfz16_0
              try clear hfz16_1
              try clear hfz16_2
              try clear hfz16_3
              try clear hfz18_0
              try clear hfz18_1
              try clear hfz18_2
              try clear hfz18_3
              try clear hfz23_0
              try clear hfz23_1
              try clear hfz23_2
              try clear hfz23_3
              try clear hfz23_4
              try clear hfz23_5
              try clear hfz23_6
              try clear hfz23_7
              try clear hfz24_0
              try clear hfz24_1
              try clear hfz24_2
              try clear hfz24_3
              try clear hfz29_0
              try clear hfz29_1
              try clear hfz29_2
              try clear hfz29_3
              try clear hfz35_0
              try clear hfz35_1
              try clear hfz35_2
              try clear hfz35_3
              try clear hfz40_0
              try clear hfz40_1
              try clear hfz40_2
              try clear hfz40_3
              try clear hfz42_0
              try clear hfz42_1
              try clear hfz42_2
              try clear hfz42_3
              try clear hfz42_4
              try clear hfz42_5
              try clear hfz42_6
              try clear hfz42_7
              try clear hfz46_0
              try clear hfz46_1
              try clear hfz46_2
              try clear hfz46_3
              try clear hfz49_0
              try clear hfz49_1
              try clear hfz49_2
              try clear hfz49_3
              try clear p2
              obtain ⟨x10_3, x312000_3, x312001_3, x312002_3, x312003_3, rfl, HA, HK3, BK310, BK311, BK318, HB⟩ := hrel
              cases gk with
              | zero => exact absurd HA.out (by simp [chargeparklaw12_ChargerSilence.l0])
              | succ k3 =>
                have H := HA.out
                clear HA
                simp only [chargeparklaw12_ChargerSilence.l0] at H
                by_cases c50 : x10_3 < a1_2
                · rw [if_pos c50] at H
                  have c50b0 : decide (x10_3 < a1_2) = true := decide_eq_true c50
                  clear c50
                  replace H := Option.bind_eq_some_iff.mp H
                  obtain ⟨⟨t320, t321, t322, t323, t324⟩, A510, H⟩ := H
                  replace H : (if t324 = 0 then (if t322 = (wrap64 ((wrap64 (a1_2 - 1)) - x10_3)) then (chargeparklaw12_ChargerSilence.l0 k3 x5_20 a1_2 (wrap64 (x10_3 + 1)) a0_0 a0_1 a0_2 a0_3 a0_4 a0_5 a0_6 a0_7 t320 t321 t322 t323) else (some false)) else (some false)) = some r := H
                  have A51 := Aside0.mk A510
                  clear A510
                  by_cases c52 : t324 = 0
                  · rw [if_pos c52] at H
                    have c52b0 : (t324 == 0) = true := beq_iff_eq.mpr c52
                    have c52b1 : (t324 != 0) = false := bne_eq_false_iff_eq.mpr c52
                    clear c52
                    by_cases c53 : t322 = (wrap64 ((wrap64 (a1_2 - 1)) - x10_3))
                    · rw [if_pos c53] at H
                      have c53b0 : (t322 == (wrap64 ((wrap64 (a1_2 - 1)) - x10_3))) = true := beq_iff_eq.mpr c53
                      have c53b1 : (t322 != (wrap64 ((wrap64 (a1_2 - 1)) - x10_3))) = false := bne_eq_false_iff_eq.mpr c53
                      clear c53
                      have H' := Aside0.mk H
                      clear H
                      have hnb54 := NB310_311.out
                      have hnc54 := NB311_310.out
                      have hnb55 := NB310_318.out
                      have hnc55 := NB318_310.out
                      have hcz56_0 : wr.cell? ⟨gb310, 0, none⟩ = some (.string a0_0) := (blk_cell BK310.out 0).trans rfl
                      have hcz56_1 : wr.cell? ⟨gb310, 1, none⟩ = some (.int .i64 a0_1) := (blk_cell BK310.out 1).trans rfl
                      have hcz56_2 : wr.cell? ⟨gb310, 2, none⟩ = some (.int .i64 a0_2) := (blk_cell BK310.out 2).trans rfl
                      have hcz56_3 : wr.cell? ⟨gb310, 3, none⟩ = some (.int .i64 a0_3) := (blk_cell BK310.out 3).trans rfl
                      have hcz56_4 : wr.cell? ⟨gb310, 4, none⟩ = some (.int .i64 a0_4) := (blk_cell BK310.out 4).trans rfl
                      have hcz56_5 : wr.cell? ⟨gb310, 5, none⟩ = some (.int .i64 a0_5) := (blk_cell BK310.out 5).trans rfl
                      have hcz56_6 : wr.cell? ⟨gb310, 6, none⟩ = some (.int .i64 a0_6) := (blk_cell BK310.out 6).trans rfl
                      have hcz56_7 : wr.cell? ⟨gb310, 7, none⟩ = some (.int .i64 a0_7) := (blk_cell BK310.out 7).trans rfl
                      have hfz56_0 := blk_frozen BK310.out 0
                      have hfz56_1 := blk_frozen BK310.out 1
                      have hfz56_2 := blk_frozen BK310.out 2
                      have hfz56_3 := blk_frozen BK310.out 3
                      have hfz56_4 := blk_frozen BK310.out 4
                      have hfz56_5 := blk_frozen BK310.out 5
                      have hfz56_6 := blk_frozen BK310.out 6
                      have hfz56_7 := blk_frozen BK310.out 7
                      have hnb57 := NB311_318.out
                      have hnc57 := NB318_311.out
                      have hcz58_0 : wr.cell? ⟨gb311, 0, none⟩ = some (.int .i64 x312000_3) := (blk_cell BK311.out 0).trans rfl
                      have hcz58_1 : wr.cell? ⟨gb311, 1, none⟩ = some (.int .i64 x312001_3) := (blk_cell BK311.out 1).trans rfl
                      have hcz58_2 : wr.cell? ⟨gb311, 2, none⟩ = some (.int .i64 x312002_3) := (blk_cell BK311.out 2).trans rfl
                      have hcz58_3 : wr.cell? ⟨gb311, 3, none⟩ = some (.bool x312003_3) := (blk_cell BK311.out 3).trans rfl
                      have hfz58_0 := blk_frozen BK311.out 0
                      have hfz58_1 := blk_frozen BK311.out 1
                      have hfz58_2 := blk_frozen BK311.out 2
                      have hfz58_3 := blk_frozen BK311.out 3
                      go_wp2_with (first | ((with_reducible refine gate_callee (f := 11) rfl ?_); refine goesL_ (some 68) rfl rfl Tryd.func11 (by kernel_rfl) rfl #[.agg #[.string a0_0, .int .i64 a0_1, .int .i64 a0_2, .int .i64 a0_3, .int .i64 a0_4, .int .i64 a0_5, .int .i64 a0_6, .int .i64 a0_7], .agg #[.int .i64 x312000_3, .int .i64 x312001_3, .int .i64 x312002_3, .bool x312003_3], .agg #[.int .i64 8, .int .i64 0, .int .i64 0]] rfl (by (try simp only [List.map_toArray, List.map_cons, List.map_nil]); first | done | rfl | (simp only [List.length_drop, List.length_take]; rfl)) ?_; (with_reducible refine (charger_Step.calls a0_0 a0_1 a0_2 a0_3 a0_4 a0_5 a0_6 a0_7 x312000_3 x312001_3 x312002_3 x312003_3 8 0 0 t320 t321 t322 t323 t324 _ (hG.below (by repeat (first | (with_reducible first | exact HB.out | apply below_alloc | apply pw_below_drewN | apply below_drew1) | exact HB.out | (refine Below.setCell ?_ (Aside0.out (by assumption)) _)))) A51.out).mono ?_); rintro e w59 ⟨rfl, hb⟩; refine ⟨_, rfl, ?_⟩; have n0_ := Aside0.mk (blk_below (g := gb310) (o := .cells #[.string a0_0, .int .i64 a0_1, .int .i64 a0_2, .int .i64 a0_3, .int .i64 a0_4, .int .i64 a0_5, .int .i64 a0_6, .int .i64 a0_7] 23 (0, 0)) (by (with_reducible repeat (first | refine blk_drewN ?_ _ | refine blk_drew ?_ | refine blk_alloc ?_ _)); exact BK310.out) hb); have n1_ := Aside0.mk (blk_below (g := gb311) (o := .cells #[.int .i64 x312000_3, .int .i64 x312001_3, .int .i64 x312002_3, .bool x312003_3] 25 (0, 0)) (by (with_reducible repeat (first | refine blk_drewN ?_ _ | refine blk_drew ?_ | refine blk_alloc ?_ _)); exact BK311.out) hb); have n2_ := Aside0.mk (blk_below (g := gb318) (o := .cells #[.int .i64 t313, .int .i64 t314, .int .i64 t315, .bool t316] 25 (0, 0)) (by (with_reducible repeat (first | refine blk_drewN ?_ _ | refine blk_drew ?_ | refine blk_alloc ?_ _)); exact BK318.out) hb); have n3_ := Aside0.mk (below_step (by repeat (first | (with_reducible first | exact HB.out | apply below_alloc | apply pw_below_drewN | apply below_drew1 | refine below_set ?_ GE310.out | refine below_set ?_ GE311.out | refine below_set ?_ GE318.out) | exact HB.out)) hb); clear BK310; clear BK311; clear BK318; clear HB; have BK310 := n0_; have BK311 := n1_; have BK318 := n2_; have HB := n3_; clear n0_ n1_ n2_ n3_; (try clear hb); (try clear hb2); (try clear hk); (try clear hi)) | ((with_reducible refine gate_dst (N := 11) rfl ?_); refine box_event ?hg (N := 11) ?hd (cs := #[.int .i64 0, .int .i64 0, .int .i64 0, .bool false]) (t := 25) ?hr ?_; (case hd => rfl); (case hg => rfl); (case hr => first | (go_simp; done) | (go_simp; rfl)); intro gb325 hg w60 hbox hb; have n0_ := Aside0.mk (blk_below (g := gb310) (o := .cells #[.string a0_0, .int .i64 a0_1, .int .i64 a0_2, .int .i64 a0_3, .int .i64 a0_4, .int .i64 a0_5, .int .i64 a0_6, .int .i64 a0_7] 23 (0, 0)) (by (with_reducible repeat (first | refine blk_drewN ?_ _ | refine blk_drew ?_ | refine blk_alloc ?_ _)); exact BK310.out) hb); have n1_ := Aside0.mk (blk_below (g := gb311) (o := .cells #[.int .i64 x312000_3, .int .i64 x312001_3, .int .i64 x312002_3, .bool x312003_3] 25 (0, 0)) (by (with_reducible repeat (first | refine blk_drewN ?_ _ | refine blk_drew ?_ | refine blk_alloc ?_ _)); exact BK311.out) hb); have n2_ := Aside0.mk (blk_below (g := gb318) (o := .cells #[.int .i64 t313, .int .i64 t314, .int .i64 t315, .bool t316] 25 (0, 0)) (by (with_reducible repeat (first | refine blk_drewN ?_ _ | refine blk_drew ?_ | refine blk_alloc ?_ _)); exact BK318.out) hb); have n3_ := Aside0.mk (below_step (by repeat (first | (with_reducible first | exact HB.out | apply below_alloc | apply pw_below_drewN | apply below_drew1 | refine below_set ?_ GE310.out | refine below_set ?_ GE311.out | refine below_set ?_ GE318.out) | exact HB.out)) hb); have n4_ := Aside0.mk (hbox); have n5_ := Aside0.mk ((by rw [hg]; exact (below_size (by repeat (first | (with_reducible first | exact HB.out | apply below_alloc | apply pw_below_drewN | apply below_drew1 | refine below_set ?_ GE310.out | refine below_set ?_ GE311.out | refine below_set ?_ GE318.out) | exact HB.out))) : w.heap.size ≤ gb325)); have n6_ := Aside0.mk ((by rw [hg]; exact (below_size (by repeat (first | (with_reducible first | exact HB.out | apply below_alloc | apply pw_below_drewN | apply below_drew1 | refine below_set ?_ GE310.out | refine below_set ?_ GE311.out | refine below_set ?_ GE318.out) | exact HB.out))) : w.heap.size ≤ gb325)); have n7_ := Aside0.mk ((by rw [hg]; exact Nat.ne_of_lt (blk_lt (g := gb310) (o := .cells #[.string a0_0, .int .i64 a0_1, .int .i64 a0_2, .int .i64 a0_3, .int .i64 a0_4, .int .i64 a0_5, .int .i64 a0_6, .int .i64 a0_7] 23 (0, 0)) (by (with_reducible repeat (first | refine blk_drewN ?_ _ | refine blk_drew ?_ | refine blk_alloc ?_ _)); exact BK310.out)) : gb310 ≠ gb325)); have n8_ := Aside0.mk ((by rw [hg]; exact Nat.ne_of_gt (blk_lt (g := gb310) (o := .cells #[.string a0_0, .int .i64 a0_1, .int .i64 a0_2, .int .i64 a0_3, .int .i64 a0_4, .int .i64 a0_5, .int .i64 a0_6, .int .i64 a0_7] 23 (0, 0)) (by (with_reducible repeat (first | refine blk_drewN ?_ _ | refine blk_drew ?_ | refine blk_alloc ?_ _)); exact BK310.out)) : gb325 ≠ gb310)); have n9_ := Aside0.mk ((by rw [hg]; exact Nat.ne_of_lt (blk_lt (g := gb311) (o := .cells #[.int .i64 x312000_3, .int .i64 x312001_3, .int .i64 x312002_3, .bool x312003_3] 25 (0, 0)) (by (with_reducible repeat (first | refine blk_drewN ?_ _ | refine blk_drew ?_ | refine blk_alloc ?_ _)); exact BK311.out)) : gb311 ≠ gb325)); have n10_ := Aside0.mk ((by rw [hg]; exact Nat.ne_of_gt (blk_lt (g := gb311) (o := .cells #[.int .i64 x312000_3, .int .i64 x312001_3, .int .i64 x312002_3, .bool x312003_3] 25 (0, 0)) (by (with_reducible repeat (first | refine blk_drewN ?_ _ | refine blk_drew ?_ | refine blk_alloc ?_ _)); exact BK311.out)) : gb325 ≠ gb311)); have n11_ := Aside0.mk ((by rw [hg]; exact Nat.ne_of_lt (blk_lt (g := gb318) (o := .cells #[.int .i64 t313, .int .i64 t314, .int .i64 t315, .bool t316] 25 (0, 0)) (by (with_reducible repeat (first | refine blk_drewN ?_ _ | refine blk_drew ?_ | refine blk_alloc ?_ _)); exact BK318.out)) : gb318 ≠ gb325)); have n12_ := Aside0.mk ((by rw [hg]; exact Nat.ne_of_gt (blk_lt (g := gb318) (o := .cells #[.int .i64 t313, .int .i64 t314, .int .i64 t315, .bool t316] 25 (0, 0)) (by (with_reducible repeat (first | refine blk_drewN ?_ _ | refine blk_drew ?_ | refine blk_alloc ?_ _)); exact BK318.out)) : gb325 ≠ gb318)); clear BK310; clear BK311; clear BK318; clear HB; have BK310 := n0_; have BK311 := n1_; have BK318 := n2_; have HB := n3_; have BK325 := n4_; have GW325 := n5_; have GE325 := n6_; have NB310_325 := n7_; have NB325_310 := n8_; have NB311_325 := n9_; have NB325_311 := n10_; have NB318_325 := n11_; have NB325_318 := n12_; clear n0_ n1_ n2_ n3_ n4_ n5_ n6_ n7_ n8_ n9_ n10_ n11_ n12_; clear hb hbox hg; have hnb61 := NB325_310.out; have hnc61 := NB310_325.out; have hnb62 := NB325_311.out; have hnc62 := NB311_325.out; have hnb63 := NB325_318.out; have hnc63 := NB318_325.out; have hcz64_0 : w60.cell? ⟨gb325, 0, none⟩ = some (.int .i64 0) := (blk_cell BK325.out 0).trans rfl; have hcz64_1 : w60.cell? ⟨gb325, 1, none⟩ = some (.int .i64 0) := (blk_cell BK325.out 1).trans rfl; have hcz64_2 : w60.cell? ⟨gb325, 2, none⟩ = some (.int .i64 0) := (blk_cell BK325.out 2).trans rfl; have hcz64_3 : w60.cell? ⟨gb325, 3, none⟩ = some (.bool false) := (blk_cell BK325.out 3).trans rfl; have hfz64_0 := blk_frozen BK325.out 0; have hfz64_1 := blk_frozen BK325.out 1; have hfz64_2 := blk_frozen BK325.out 2; have hfz64_3 := blk_frozen BK325.out 3; have hcz65_0 : w60.cell? ⟨gb311, 0, none⟩ = some (.int .i64 x312000_3) := (blk_cell BK311.out 0).trans rfl; have hcz65_1 : w60.cell? ⟨gb311, 1, none⟩ = some (.int .i64 x312001_3) := (blk_cell BK311.out 1).trans rfl; have hcz65_2 : w60.cell? ⟨gb311, 2, none⟩ = some (.int .i64 x312002_3) := (blk_cell BK311.out 2).trans rfl; have hcz65_3 : w60.cell? ⟨gb311, 3, none⟩ = some (.bool x312003_3) := (blk_cell BK311.out 3).trans rfl; have hfz65_0 := blk_frozen BK311.out 0; have hfz65_1 := blk_frozen BK311.out 1; have hfz65_2 := blk_frozen BK311.out 2; have hfz65_3 := blk_frozen BK311.out 3))
                      go_roundg k3
                      case measure => have := HJ4.out; have := HJ20.out; have := HK3.out; omega
                      case rel => exact ⟨(wrap64 (x10_3 + 1)), (t320), (t321), (t322), (t323), (by first | rfl | (simp; done) | (simp [*]; done)), H', ⟨by have := HJ4.out; have := HJ20.out; have := HK3.out; omega⟩, ⟨by (with_reducible repeat (first | refine blk_drewN ?_ _ | refine blk_drew ?_ | refine blk_alloc ?_ _)); refine blk_far ?_ NB310_311.out _; (with_reducible repeat (first | refine blk_drewN ?_ _ | refine blk_drew ?_ | refine blk_alloc ?_ _)); refine blk_far ?_ NB310_311.out _; (with_reducible repeat (first | refine blk_drewN ?_ _ | refine blk_drew ?_ | refine blk_alloc ?_ _)); refine blk_far ?_ NB310_311.out _; (with_reducible repeat (first | refine blk_drewN ?_ _ | refine blk_drew ?_ | refine blk_alloc ?_ _)); refine blk_far ?_ NB310_311.out _; (with_reducible repeat (first | refine blk_drewN ?_ _ | refine blk_drew ?_ | refine blk_alloc ?_ _)); refine blk_far ?_ NB310_325.out _; (with_reducible repeat (first | refine blk_drewN ?_ _ | refine blk_drew ?_ | refine blk_alloc ?_ _)); refine blk_far ?_ NB310_325.out _; (with_reducible repeat (first | refine blk_drewN ?_ _ | refine blk_drew ?_ | refine blk_alloc ?_ _)); refine blk_far ?_ NB310_325.out _; (with_reducible repeat (first | refine blk_drewN ?_ _ | refine blk_drew ?_ | refine blk_alloc ?_ _)); refine blk_far ?_ NB310_325.out _; (with_reducible repeat (first | refine blk_drewN ?_ _ | refine blk_drew ?_ | refine blk_alloc ?_ _)); exact BK310.out⟩, ⟨by (with_reducible repeat (first | refine blk_drewN ?_ _ | refine blk_drew ?_ | refine blk_alloc ?_ _)); refine blk_put (cs := #[.int .i64 t320, .int .i64 t321, .int .i64 t322, .bool x312003_3]) ?_ 3 _ rfl; (with_reducible repeat (first | refine blk_drewN ?_ _ | refine blk_drew ?_ | refine blk_alloc ?_ _)); refine blk_put (cs := #[.int .i64 t320, .int .i64 t321, .int .i64 x312002_3, .bool x312003_3]) ?_ 2 _ rfl; (with_reducible repeat (first | refine blk_drewN ?_ _ | refine blk_drew ?_ | refine blk_alloc ?_ _)); refine blk_put (cs := #[.int .i64 t320, .int .i64 x312001_3, .int .i64 x312002_3, .bool x312003_3]) ?_ 1 _ rfl; (with_reducible repeat (first | refine blk_drewN ?_ _ | refine blk_drew ?_ | refine blk_alloc ?_ _)); refine blk_put (cs := #[.int .i64 x312000_3, .int .i64 x312001_3, .int .i64 x312002_3, .bool x312003_3]) ?_ 0 _ rfl; (with_reducible repeat (first | refine blk_drewN ?_ _ | refine blk_drew ?_ | refine blk_alloc ?_ _)); refine blk_far ?_ NB311_325.out _; (with_reducible repeat (first | refine blk_drewN ?_ _ | refine blk_drew ?_ | refine blk_alloc ?_ _)); refine blk_far ?_ NB311_325.out _; (with_reducible repeat (first | refine blk_drewN ?_ _ | refine blk_drew ?_ | refine blk_alloc ?_ _)); refine blk_far ?_ NB311_325.out _; (with_reducible repeat (first | refine blk_drewN ?_ _ | refine blk_drew ?_ | refine blk_alloc ?_ _)); refine blk_far ?_ NB311_325.out _; (with_reducible repeat (first | refine blk_drewN ?_ _ | refine blk_drew ?_ | refine blk_alloc ?_ _)); exact BK311.out⟩, ⟨by (with_reducible repeat (first | refine blk_drewN ?_ _ | refine blk_drew ?_ | refine blk_alloc ?_ _)); refine blk_far ?_ NB318_311.out _; (with_reducible repeat (first | refine blk_drewN ?_ _ | refine blk_drew ?_ | refine blk_alloc ?_ _)); refine blk_far ?_ NB318_311.out _; (with_reducible repeat (first | refine blk_drewN ?_ _ | refine blk_drew ?_ | refine blk_alloc ?_ _)); refine blk_far ?_ NB318_311.out _; (with_reducible repeat (first | refine blk_drewN ?_ _ | refine blk_drew ?_ | refine blk_alloc ?_ _)); refine blk_far ?_ NB318_311.out _; (with_reducible repeat (first | refine blk_drewN ?_ _ | refine blk_drew ?_ | refine blk_alloc ?_ _)); refine blk_far ?_ NB318_325.out _; (with_reducible repeat (first | refine blk_drewN ?_ _ | refine blk_drew ?_ | refine blk_alloc ?_ _)); refine blk_far ?_ NB318_325.out _; (with_reducible repeat (first | refine blk_drewN ?_ _ | refine blk_drew ?_ | refine blk_alloc ?_ _)); refine blk_far ?_ NB318_325.out _; (with_reducible repeat (first | refine blk_drewN ?_ _ | refine blk_drew ?_ | refine blk_alloc ?_ _)); refine blk_far ?_ NB318_325.out _; (with_reducible repeat (first | refine blk_drewN ?_ _ | refine blk_drew ?_ | refine blk_alloc ?_ _)); exact BK318.out⟩, ⟨by repeat (first | (with_reducible first | exact HB.out | apply below_alloc | apply pw_below_drewN | apply below_drew1 | refine below_set ?_ GE310.out | refine below_set ?_ GE311.out | refine below_set ?_ GE318.out | refine below_set ?_ GE325.out) | exact HB.out)⟩⟩
                    · rw [if_neg c53] at H
                      have c53b0 : (t322 == (wrap64 ((wrap64 (a1_2 - 1)) - x10_3))) = false := beq_eq_false_iff_ne.mpr c53
                      have c53b1 : (t322 != (wrap64 ((wrap64 (a1_2 - 1)) - x10_3))) = true := bne_iff_ne.mpr c53
                      obtain rfl := Option.some.inj H
                      exact absurd hr.out (by decide)
                  · rw [if_neg c52] at H
                    have c52b0 : (t324 == 0) = false := beq_eq_false_iff_ne.mpr c52
                    have c52b1 : (t324 != 0) = true := bne_iff_ne.mpr c52
                    obtain rfl := Option.some.inj H
                    exact absurd hr.out (by decide)
                · rw [if_neg c50] at H
                  have c50b0 : decide (x10_3 < a1_2) = false := decide_eq_false c50
                  clear c50
                  by_cases c66 : x5_20 = true
                  · subst c66
                    have H1 : ((charger_Allowed.f a0_0 a0_1 a0_2 a0_3 a0_4 a0_5 a0_6 a0_7 x312000_3 x312001_3 x312002_3 x312003_3).bind fun t326 => (some (decide (t326 ≤ a0_6)))) = some r := by rw [if_pos rfl] at H; exact H
                    clear H
                    have H := H1
                    clear H1
                    replace H := Option.bind_eq_some_iff.mp H
                    obtain ⟨t326, A670, H⟩ := H
                    replace H : (some (decide (t326 ≤ a0_6))) = some r := H
                    have A67 := Aside0.mk A670
                    clear A670
                    obtain rfl := Option.some.inj H
                    simp only [Option.some.injEq, Prod.mk.injEq] at H
                    obtain ⟨rfl⟩ := H
                    try go_wp2
                    have n0_ := Aside0.mk (blk_drew BK310.out)
                    have n1_ := Aside0.mk (blk_drew BK311.out)
                    have n2_ := Aside0.mk (blk_drew BK318.out)
                    have n3_ := Aside0.mk (below_drew1 HB.out)
                    clear BK310
                    clear BK311
                    clear BK318
                    clear HB
                    have BK310 := n0_
                    have BK311 := n1_
                    have BK318 := n2_
                    have HB := n3_
                    clear n0_ n1_ n2_ n3_
                    refine start_ (n := 10) (S := fun w' => w'.cell? ⟨gb310, 0, none⟩ = some (.string a0_0) ∧ w'.cell? ⟨gb310, 1, none⟩ = some (.int .i64 a0_1) ∧ w'.cell? ⟨gb310, 2, none⟩ = some (.int .i64 a0_2) ∧ w'.cell? ⟨gb310, 3, none⟩ = some (.int .i64 a0_3) ∧ w'.cell? ⟨gb310, 4, none⟩ = some (.int .i64 a0_4) ∧ w'.cell? ⟨gb310, 5, none⟩ = some (.int .i64 a0_5) ∧ w'.cell? ⟨gb310, 6, none⟩ = some (.int .i64 a0_6) ∧ w'.cell? ⟨gb310, 7, none⟩ = some (.int .i64 a0_7) ∧ w'.cell? ⟨gb311, 0, none⟩ = some (.int .i64 x312000_3) ∧ w'.cell? ⟨gb311, 1, none⟩ = some (.int .i64 x312001_3) ∧ w'.cell? ⟨gb311, 2, none⟩ = some (.int .i64 x312002_3) ∧ w'.cell? ⟨gb311, 3, none⟩ = some (.bool x312003_3)) (ds := []) #[false, false, false, false, false, false, false, false, false, false] (by kernel_rfl) rfl rfl ⟨(blk_cell BK310.out 0).trans rfl, (blk_cell BK310.out 1).trans rfl, (blk_cell BK310.out 2).trans rfl, (blk_cell BK310.out 3).trans rfl, (blk_cell BK310.out 4).trans rfl, (blk_cell BK310.out 5).trans rfl, (blk_cell BK310.out 6).trans rfl, (blk_cell BK310.out 7).trans rfl, (blk_cell BK311.out 0).trans rfl, (blk_cell BK311.out 1).trans rfl, (blk_cell BK311.out 2).trans rfl, (blk_cell BK311.out 3).trans rfl⟩ (fun hHeld => ?_); refine with_tabW chargeparklaw12_ChargerSilence.tab15 chargeparklaw12_ChargerSilence.bits15 (fun HT_ HW_ => ?_)
                    generalize wr.drew = w68 at BK310 BK311 BK318 HB hHeld ⊢
                    refine pure_ (i := 0) (N := some 83) (v := ?_) (a' := ?_) #[true, false, false, false, false, false, false, false, false, false] rfl rfl (any_of HT_.out (by kernel_rfl)) (fun _ _ _ h => h) (Or.inl ⟨by rfl, ?_⟩) ?_ ?_
                    rotate_left
                    · intro w'
                      go_simp
                      with_reducible rfl
                    rotate_left
                    · simp only [Act.put, List.setIfInBounds_toArray, List.set_cons_zero, List.set_cons_succ, i64_w, i32_w]
                      rfl
                    refine pure_ (i := 1) (N := some 84) (v := ?_) (a' := ?_) #[true, true, false, false, false, false, false, false, false, false] rfl rfl (any_of HT_.out (by kernel_rfl)) (fun _ _ _ h => h) (Or.inl ⟨by rfl, ?_⟩) ?_ ?_
                    rotate_left
                    · intro w'
                      go_simp
                      with_reducible rfl
                    rotate_left
                    · simp only [Act.put, List.setIfInBounds_toArray, List.set_cons_zero, List.set_cons_succ, i64_w, i32_w]
                      rfl
                    refine pure_ (i := 5) (N := some 88) (v := ?_) (a' := ?_) #[true, true, false, false, false, true, false, false, false, false] rfl rfl (any_of HT_.out (by kernel_rfl)) (fun _ _ _ h => h) (Or.inl ⟨by rfl, ?_⟩) ?_ ?_
                    rotate_left
                    · intro w'
                      go_simp
                      with_reducible rfl
                    rotate_left
                    · simp only [Act.put, List.setIfInBounds_toArray, List.set_cons_zero, List.set_cons_succ, i64_w, i32_w]
                      rfl
                    refine take_ (i := 2) (N := some 85) (v := ?_) (a' := ?_) #[true, true, true, false, false, true, false, false, false, false] rfl rfl (take_ofW HT_.out HW_.out (by kernel_rfl)) (fun _ _ _ h => h) (Or.inl ⟨by rfl, ?_⟩) hHeld ?_ ?_
                    rotate_left
                    · rintro w' ⟨s0, s1, s2, s3, s4, s5, s6, s7, s8, s9, s10, s11⟩
                      go_simp
                      with_reducible rfl
                    rotate_left
                    · simp only [Act.put, List.setIfInBounds_toArray, List.set_cons_zero, List.set_cons_succ, i64_w, i32_w]
                      rfl
                    refine take_ (i := 3) (N := some 86) (v := ?_) (a' := ?_) #[true, true, true, true, false, true, false, false, false, false] rfl rfl (take_ofW HT_.out HW_.out (by kernel_rfl)) (fun _ _ _ h => h) (Or.inl ⟨by rfl, ?_⟩) hHeld ?_ ?_
                    rotate_left
                    · rintro w' ⟨s0, s1, s2, s3, s4, s5, s6, s7, s8, s9, s10, s11⟩
                      go_simp
                      with_reducible rfl
                    rotate_left
                    · simp only [Act.put, List.setIfInBounds_toArray, List.set_cons_zero, List.set_cons_succ, i64_w, i32_w]
                      rfl
                    refine take_ (i := 6) (N := some 89) (v := ?_) (a' := ?_) #[true, true, true, true, false, true, true, false, false, false] rfl rfl (take_ofW HT_.out HW_.out (by kernel_rfl)) (fun _ _ _ h => h) (Or.inl ⟨by rfl, ?_⟩) hHeld ?_ ?_
                    rotate_left
                    · rintro w' ⟨s0, s1, s2, s3, s4, s5, s6, s7, s8, s9, s10, s11⟩
                      go_simp
                      with_reducible rfl
                    rotate_left
                    · simp only [Act.put, List.setIfInBounds_toArray, List.set_cons_zero, List.set_cons_succ, i64_w, i32_w]
                      rfl
                    refine one_ (i := 4) (N := some 87) #[true, true, true, true, true, true, true, false, false, false] rfl rfl (one_of HT_.out (by kernel_rfl)) (by decide) (fun K hK => ?_)
                    refine goes_ Tryd.func15 (by kernel_rfl) rfl #[.agg #[.string a0_0, .int .i64 a0_1, .int .i64 a0_2, .int .i64 a0_3, .int .i64 a0_4, .int .i64 a0_5, .int .i64 a0_6, .int .i64 a0_7], .agg #[.int .i64 x312000_3, .int .i64 x312001_3, .int .i64 x312002_3, .bool x312003_3]] (by rfl) rfl rfl (by (try simp only [List.map_toArray, List.map_cons, List.map_nil]); first | done | rfl | (simp only [List.length_drop, List.length_take]; rfl)) ?_
                    with_reducible refine (charger_Allowed.calls a0_0 a0_1 a0_2 a0_3 a0_4 a0_5 a0_6 a0_7 x312000_3 x312001_3 x312002_3 x312003_3 t326 _ A67.out).mono ?_
                    rintro e w69 ⟨rfl, hb⟩
                    refine ⟨_, rfl, ?_⟩
                    have n0_ := Aside0.mk (blk_below (g := gb310) (o := .cells #[.string a0_0, .int .i64 a0_1, .int .i64 a0_2, .int .i64 a0_3, .int .i64 a0_4, .int .i64 a0_5, .int .i64 a0_6, .int .i64 a0_7] 23 (0, 0)) (by (with_reducible repeat (first | refine blk_drewN ?_ _ | refine blk_drew ?_ | refine blk_alloc ?_ _)); exact BK310.out) hb)
                    have n1_ := Aside0.mk (blk_below (g := gb311) (o := .cells #[.int .i64 x312000_3, .int .i64 x312001_3, .int .i64 x312002_3, .bool x312003_3] 25 (0, 0)) (by (with_reducible repeat (first | refine blk_drewN ?_ _ | refine blk_drew ?_ | refine blk_alloc ?_ _)); exact BK311.out) hb)
                    have n2_ := Aside0.mk (blk_below (g := gb318) (o := .cells #[.int .i64 t313, .int .i64 t314, .int .i64 t315, .bool t316] 25 (0, 0)) (by (with_reducible repeat (first | refine blk_drewN ?_ _ | refine blk_drew ?_ | refine blk_alloc ?_ _)); exact BK318.out) hb)
                    have n3_ := Aside0.mk (below_step (by repeat (first | (with_reducible first | exact HB.out | apply below_alloc | apply pw_below_drewN | apply below_drew1 | refine below_set ?_ GE310.out | refine below_set ?_ GE311.out | refine below_set ?_ GE318.out) | exact HB.out)) hb)
                    clear BK310
                    clear BK311
                    clear BK318
                    clear HB
                    have BK310 := n0_
                    have BK311 := n1_
                    have BK318 := n2_
                    have HB := n3_
                    clear n0_ n1_ n2_ n3_
                    (try clear hb)
                    (try clear hb2)
                    (try clear hk)
                    (try clear hi)
                    refine hK.out _ _ ⟨(blk_cell BK310.out 0).trans rfl, (blk_cell BK310.out 1).trans rfl, (blk_cell BK310.out 2).trans rfl, (blk_cell BK310.out 3).trans rfl, (blk_cell BK310.out 4).trans rfl, (blk_cell BK310.out 5).trans rfl, (blk_cell BK310.out 6).trans rfl, (blk_cell BK310.out 7).trans rfl, (blk_cell BK311.out 0).trans rfl, (blk_cell BK311.out 1).trans rfl, (blk_cell BK311.out 2).trans rfl, (blk_cell BK311.out 3).trans rfl⟩ (fun hHeld => ?_)
                    clear hK K
                    refine norm_ (a' := ?_) ?_ ?_
                    rotate_left
                    · show Act.put _ (some 87) _ = _
                      simp only [Act.put, List.setIfInBounds_toArray, List.set_cons_zero, List.set_cons_succ, i64_w, i32_w]
                      rfl
                    refine pure_ (i := 7) (N := some 90) (v := ?_) (a' := ?_) #[true, true, true, true, true, true, true, true, false, false] rfl rfl (any_of HT_.out (by kernel_rfl)) (fun _ _ _ h => h) (Or.inl ⟨by rfl, ?_⟩) ?_ ?_
                    rotate_left
                    · intro w'
                      go_simp
                      with_reducible rfl
                    rotate_left
                    · simp only [Act.put, List.setIfInBounds_toArray, List.set_cons_zero, List.set_cons_succ, i64_w, i32_w]
                      rfl
                    refine pure_ (i := 8) (N := some 91) (v := ?_) (a' := ?_) #[true, true, true, true, true, true, true, true, true, false] rfl rfl (any_of HT_.out (by kernel_rfl)) (fun _ _ _ h => h) (Or.inl ⟨by rfl, ?_⟩) ?_ ?_
                    rotate_left
                    · intro w'
                      go_simp
                      with_reducible rfl
                    rotate_left
                    · simp only [Act.put, List.setIfInBounds_toArray, List.set_cons_zero, List.set_cons_succ, i64_w, i32_w]
                      rfl
                    refine pure_ (i := 9) (N := some 4) (v := ?_) (a' := ?_) #[true, true, true, true, true, true, true, true, true, true] rfl rfl (any_of HT_.out (by kernel_rfl)) (fun _ _ _ h => h) (Or.inl ⟨by rfl, ?_⟩) ?_ ?_
                    rotate_left
                    · intro w'
                      go_simp
                      with_reducible rfl
                    rotate_left
                    · simp only [Act.put, List.setIfInBounds_toArray, List.set_cons_zero, List.set_cons_succ, i64_w, i32_w]
                      rfl
                    refine done_ (done_of HT_.out (by kernel_rfl)) ?_
                    try go_wp2
                    go_ret
                    exact ⟨by first | rfl | (simp [errW_none, errW_some] <;> rfl) | (simp [*, errW_none, errW_some] <;> rfl), by repeat (first | (with_reducible first | exact HB.out | apply below_alloc | apply pw_below_drewN | apply below_drew1 | refine below_set ?_ GE310.out | refine below_set ?_ GE311.out | refine below_set ?_ GE318.out) | exact HB.out)⟩
                  · replace c66 := Bool.eq_false_iff.mpr c66
                    subst c66
                    have H1 : (some false) = some r := by rw [if_neg (show ¬ (false = true) by decide)] at H; exact H
                    clear H
                    have H := H1
                    clear H1
                    obtain rfl := Option.some.inj H
                    exact absurd hr.out (by decide)

end Go.Proofs.YtnfanhnflcjphaaDoor.PAll
