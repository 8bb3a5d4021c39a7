/- What the Go functions of this seat's laws return, told as Lean functions and proved by their walks; laid by a program of this session out of Lean's own print of the translation. No conditions of its own. -/
import Derived.Test.YtnfanhnflcjphaaDoorPAllx0
import Derived.Test.YtnfanhnflcjphaaDoorPAllx3
import Derived.Test.YtnfanhnflcjphaaDoorPAllx4
import Derived.Test.YtnfanhnflcjphaaDoorPAllx6
import Derived.Test.YtnfanhnflcjphaaDoorPAllx7
namespace Go.Proofs.YtnfanhnflcjphaaDoor.PAll
open Go.RowKit Go.Proofs.YtnfanhnflcjphaaDoorW.PrintWords Go.Proofs.YtnfanhnflcjphaaDoorW.PrintLast Go.Proofs.YtnfanhnflcjphaaDoorW.PrintMore
attribute [local go_sem] max2_int min2_int max_two min_two max_three min_three max_four min_four   -- for this text's walks alone
set_option linter.unusedVariables false
set_option linter.unusedSimpArgs false

/-! ### chargeparklaw12_ChargerWelded: function 7 -/
mutual
def chargeparklaw12_ChargerWelded.j0 : Nat → List (S27) → Bool → Bool → ByteArray → Int → Int → Int → Int → Int → Int → Int → Int → Int → Int → Bool → Option (Bool)
 | 0, _, _, _, _, _, _, _, _, _, _, _, _, _, _, _ => none
 | k + 1, x2, x7, x23, x297000, x297001, x297002, x297003, x297004, x297005, x297006, x297007, x298000, x298001, x298002, x298003 => if x23 = true then (some x7) else (chargeparklaw12_ChargerWelded.l0 k x2 x7 x298003 0 x297000 x297001 x297002 x297003 x297004 x297005 x297006 x297007 x298000 x298001 x298002 x298003)
def chargeparklaw12_ChargerWelded.l0 : Nat → List (S27) → Bool → Bool → Int → ByteArray → Int → Int → Int → Int → Int → Int → Int → Int → Int → Int → Bool → Option (Bool)
 | 0, _, _, _, _, _, _, _, _, _, _, _, _, _, _, _, _ => none
 | k + 1, x2, x7, x9, x10, x297000, x297001, x297002, x297003, x297004, x297005, x297006, x297007, x298000, x298001, x298002, x298003 => if x10 < (x2.length : Int) then (if 0 ≤ x10 then ((charger_Step.f x297000 x297001 x297002 x297003 x297004 x297005 x297006 x297007 x298000 x298001 x298002 x298003 ((rd_T27 x2 x10).f0) ((rd_T27 x2 x10).f1) ((rd_T27 x2 x10).f2)).bind fun bt300 => (if bt300.2.2.2.2 = 0 then (if x9 = true then (chargeparklaw12_ChargerWelded.j2 k x2 x7 true x10 x297000 x297001 x297002 x297003 x297004 x297005 x297006 x297007 bt300.1 bt300.2.1 bt300.2.2.1 bt300.2.2.2.1) else (if ((rd_T27 x2 x10).f0) = 6 then (chargeparklaw12_ChargerWelded.j2 k x2 x7 (((rd_T27 x2 x10).f1) == 1) x10 x297000 x297001 x297002 x297003 x297004 x297005 x297006 x297007 bt300.1 bt300.2.1 bt300.2.2.1 bt300.2.2.2.1) else (chargeparklaw12_ChargerWelded.j2 k x2 x7 false x10 x297000 x297001 x297002 x297003 x297004 x297005 x297006 x297007 bt300.1 bt300.2.1 bt300.2.2.1 bt300.2.2.2.1))) else (chargeparklaw12_ChargerWelded.l0 k x2 x7 x9 (wrap64 (x10 + 1)) x297000 x297001 x297002 x297003 x297004 x297005 x297006 x297007 x298000 x298001 x298002 x298003))) else (none)) else (some x7)
def chargeparklaw12_ChargerWelded.j2 : Nat → List (S27) → Bool → Bool → Int → ByteArray → Int → Int → Int → Int → Int → Int → Int → Int → Int → Int → Bool → Option (Bool)
 | 0, _, _, _, _, _, _, _, _, _, _, _, _, _, _, _, _ => none
 | k + 1, x2, x7, x9, x10, x297000, x297001, x297002, x297003, x297004, x297005, x297006, x297007, x306000, x306001, x306002, x306003 => if x7 = true then (if (x306003 == x9) = true then (if x9 = true then ((charger_Allowed.f x297000 x297001 x297002 x297003 x297004 x297005 x297006 x297007 x306000 x306001 x306002 x306003).bind fun t308 => (if t308 = x297004 then (chargeparklaw12_ChargerWelded.l0 k x2 (x306000 == 5) x9 (wrap64 (x10 + 1)) x297000 x297001 x297002 x297003 x297004 x297005 x297006 x297007 x306000 x306001 x306002 x306003) else (chargeparklaw12_ChargerWelded.l0 k x2 false x9 (wrap64 (x10 + 1)) x297000 x297001 x297002 x297003 x297004 x297005 x297006 x297007 x306000 x306001 x306002 x306003))) else (chargeparklaw12_ChargerWelded.l0 k x2 true x9 (wrap64 (x10 + 1)) x297000 x297001 x297002 x297003 x297004 x297005 x297006 x297007 x306000 x306001 x306002 x306003)) else (chargeparklaw12_ChargerWelded.l0 k x2 false x9 (wrap64 (x10 + 1)) x297000 x297001 x297002 x297003 x297004 x297005 x297006 x297007 x306000 x306001 x306002 x306003)) else (chargeparklaw12_ChargerWelded.l0 k x2 false x9 (wrap64 (x10 + 1)) x297000 x297001 x297002 x297003 x297004 x297005 x297006 x297007 x306000 x306001 x306002 x306003)
end
def chargeparklaw12_ChargerWelded.f (k : Nat) (a0_0 : ByteArray) (a0_1 : Int) (a0_2 : Int) (a0_3 : Int) (a0_4 : Int) (a0_5 : Int) (a0_6 : Int) (a0_7 : Int) (a1_0 : Int) (a1_1 : Int) (a1_2 : Int) (a1_3 : Bool) (l2 : List (S27)) : Option (Bool) := (chargeparklaw12_head_c.f).bind fun _ => ((chargeparkref12_Valid.f k a0_0 a0_1 a0_2 a0_3 a0_4 a0_5 a0_6 a0_7 a1_0 a1_1 a1_2 a1_3).bind fun t298 => (if t298 = true then (chargeparklaw12_ChargerWelded.j0 k l2 true (decide ((l2.length : Int) > 100)) a0_0 a0_1 a0_2 a0_3 a0_4 a0_5 a0_6 a0_7 a1_0 a1_1 a1_2 a1_3) else (chargeparklaw12_ChargerWelded.j0 k l2 true true a0_0 a0_1 a0_2 a0_3 a0_4 a0_5 a0_6 a0_7 a1_0 a1_1 a1_2 a1_3)))
theorem chargeparklaw12_ChargerWelded.mono_l : ∀ k, (∀ y0 y1 y2 y3 y4 y5 y6 y7 y8 y9 y10 y11 y12 y13 y14, LeO (chargeparklaw12_ChargerWelded.j0 k y0 y1 y2 y3 y4 y5 y6 y7 y8 y9 y10 y11 y12 y13 y14) (chargeparklaw12_ChargerWelded.j0 (k + 1) y0 y1 y2 y3 y4 y5 y6 y7 y8 y9 y10 y11 y12 y13 y14)) ∧ (∀ y0 y1 y2 y3 y4 y5 y6 y7 y8 y9 y10 y11 y12 y13 y14 y15, LeO (chargeparklaw12_ChargerWelded.l0 k y0 y1 y2 y3 y4 y5 y6 y7 y8 y9 y10 y11 y12 y13 y14 y15) (chargeparklaw12_ChargerWelded.l0 (k + 1) y0 y1 y2 y3 y4 y5 y6 y7 y8 y9 y10 y11 y12 y13 y14 y15)) ∧ (∀ y0 y1 y2 y3 y4 y5 y6 y7 y8 y9 y10 y11 y12 y13 y14 y15, LeO (chargeparklaw12_ChargerWelded.j2 k y0 y1 y2 y3 y4 y5 y6 y7 y8 y9 y10 y11 y12 y13 y14 y15) (chargeparklaw12_ChargerWelded.j2 (k + 1) y0 y1 y2 y3 y4 y5 y6 y7 y8 y9 y10 y11 y12 y13 y14 y15))
 | 0 => ⟨fun _ _ _ _ _ _ _ _ _ _ _ _ _ _ _ r h => by simp [chargeparklaw12_ChargerWelded.j0] at h, fun _ _ _ _ _ _ _ _ _ _ _ _ _ _ _ _ r h => by simp [chargeparklaw12_ChargerWelded.l0] at h, fun _ _ _ _ _ _ _ _ _ _ _ _ _ _ _ _ r h => by simp [chargeparklaw12_ChargerWelded.j2] at h⟩
 | k + 1 => by
  obtain ⟨ih0, ih1, ih2⟩ := chargeparklaw12_ChargerWelded.mono_l k
  refine ⟨?_, ?_, ?_⟩
  ·intro y0 y1 y2 y3 y4 y5 y6 y7 y8 y9 y10 y11 y12 y13 y14
   unfold chargeparklaw12_ChargerWelded.j0
   repeat' first
   | (with_reducible exact ih0 _ _ _ _ _ _ _ _ _ _ _ _ _ _ _)
   | (with_reducible exact ih1 _ _ _ _ _ _ _ _ _ _ _ _ _ _ _ _)
   | (with_reducible exact ih2 _ _ _ _ _ _ _ _ _ _ _ _ _ _ _ _)
   | (with_reducible exact chargeparkref12_Valid.mono _ _ _ _ _ _ _ _ _ _ _ _ _)
   | (with_reducible exact LeO.refl _)
   | (with_reducible exact LeO.none _)
   | (with_reducible refine LeO.ite ?_ ?_)
   | (with_reducible refine LeO.bind ?_ (fun _ => ?_))
   | exact ih0 _ _ _ _ _ _ _ _ _ _ _ _ _ _ _
   | exact ih1 _ _ _ _ _ _ _ _ _ _ _ _ _ _ _ _
   | exact ih2 _ _ _ _ _ _ _ _ _ _ _ _ _ _ _ _
   | exact chargeparkref12_Valid.mono _ _ _ _ _ _ _ _ _ _ _ _ _
   | exact LeO.none _
   | refine LeO.ite ?_ ?_
   | refine LeO.bind ?_ (fun _ => ?_)
  ·intro y0 y1 y2 y3 y4 y5 y6 y7 y8 y9 y10 y11 y12 y13 y14 y15
   unfold chargeparklaw12_ChargerWelded.l0
   repeat' first
   | (with_reducible exact ih0 _ _ _ _ _ _ _ _ _ _ _ _ _ _ _)
   | (with_reducible exact ih1 _ _ _ _ _ _ _ _ _ _ _ _ _ _ _ _)
   | (with_reducible exact ih2 _ _ _ _ _ _ _ _ _ _ _ _ _ _ _ _)
   | (with_reducible exact chargeparkref12_Valid.mono _ _ _ _ _ _ _ _ _ _ _ _ _)
   | (with_reducible exact LeO.refl _)
   | (with_reducible exact LeO.none _)
   | (with_reducible refine LeO.ite ?_ ?_)
   | (with_reducible refine LeO.bind ?_ (fun _ => ?_))
   | exact ih0 _ _ _ _ _ _ _ _ _ _ _ _ _ _ _
   | exact ih1 _ _ _ _ _ _ _ _ _ _ _ _ _ _ _ _
   | exact ih2 _ _ _ _ _ _ _ _ _ _ _ _ _ _ _ _
   | exact chargeparkref12_Valid.mono _ _ _ _ _ _ _ _ _ _ _ _ _
   | exact LeO.none _
   | refine LeO.ite ?_ ?_
   | refine LeO.bind ?_ (fun _ => ?_)
  ·intro y0 y1 y2 y3 y4 y5 y6 y7 y8 y9 y10 y11 y12 y13 y14 y15
   unfold chargeparklaw12_ChargerWelded.j2
   repeat' first
   | (with_reducible exact ih0 _ _ _ _ _ _ _ _ _ _ _ _ _ _ _)
   | (with_reducible exact ih1 _ _ _ _ _ _ _ _ _ _ _ _ _ _ _ _)
   | (with_reducible exact ih2 _ _ _ _ _ _ _ _ _ _ _ _ _ _ _ _)
   | (with_reducible exact chargeparkref12_Valid.mono _ _ _ _ _ _ _ _ _ _ _ _ _)
   | (with_reducible exact LeO.refl _)
   | (with_reducible exact LeO.none _)
   | (with_reducible refine LeO.ite ?_ ?_)
   | (with_reducible refine LeO.bind ?_ (fun _ => ?_))
   | exact ih0 _ _ _ _ _ _ _ _ _ _ _ _ _ _ _
   | exact ih1 _ _ _ _ _ _ _ _ _ _ _ _ _ _ _ _
   | exact ih2 _ _ _ _ _ _ _ _ _ _ _ _ _ _ _ _
   | exact chargeparkref12_Valid.mono _ _ _ _ _ _ _ _ _ _ _ _ _
   | exact LeO.none _
   | refine LeO.ite ?_ ?_
   | refine LeO.bind ?_ (fun _ => ?_)
theorem chargeparklaw12_ChargerWelded.mono : ∀ a0 a1 a2 a3 a4 a5 a6 a7 a8 a9 a10 a11 a12 k, LeO (chargeparklaw12_ChargerWelded.f k a0 a1 a2 a3 a4 a5 a6 a7 a8 a9 a10 a11 a12) (chargeparklaw12_ChargerWelded.f (k + 1) a0 a1 a2 a3 a4 a5 a6 a7 a8 a9 a10 a11 a12) := by
 intro a0 a1 a2 a3 a4 a5 a6 a7 a8 a9 a10 a11 a12 k
 obtain ⟨ih0, ih1, ih2⟩ := chargeparklaw12_ChargerWelded.mono_l k
 unfold chargeparklaw12_ChargerWelded.f
 repeat' first
   | (with_reducible exact ih0 _ _ _ _ _ _ _ _ _ _ _ _ _ _ _)
   | (with_reducible exact ih1 _ _ _ _ _ _ _ _ _ _ _ _ _ _ _ _)
   | (with_reducible exact ih2 _ _ _ _ _ _ _ _ _ _ _ _ _ _ _ _)
   | (with_reducible exact chargeparkref12_Valid.mono _ _ _ _ _ _ _ _ _ _ _ _ _)
   | (with_reducible exact LeO.refl _)
   | (with_reducible exact LeO.none _)
   | (with_reducible refine LeO.ite ?_ ?_)
   | (with_reducible refine LeO.bind ?_ (fun _ => ?_))
   | exact ih0 _ _ _ _ _ _ _ _ _ _ _ _ _ _ _
   | exact ih1 _ _ _ _ _ _ _ _ _ _ _ _ _ _ _ _
   | exact ih2 _ _ _ _ _ _ _ _ _ _ _ _ _ _ _ _
   | exact chargeparkref12_Valid.mono _ _ _ _ _ _ _ _ _ _ _ _ _
   | exact LeO.none _
   | refine LeO.ite ?_ ?_
   | refine LeO.bind ?_ (fun _ => ?_)
def chargeparklaw12_ChargerWelded.T9 : Bool × List (List Nat × List Nat) := (true, [([], []), ([], []), ([], []), ([], []), ([2, 3], [2, 3]), ([4], [4]), ([0, 1, 5], [0, 1, 5]), ([6], [6]), ([7], [7]), ([7], [7]), ([], []), ([10, 8, 6, 0, 1, 2, 3, 4, 5, 6, 7, 8, 10], [8, 10]), ([9, 11, 0, 1, 2, 3, 4, 5, 6, 7, 8, 9, 10, 11], [9])])
def chargeparklaw12_ChargerWelded.B9 : List Nat := [0, 0, 0, 0, 12, 28, 63, 127, 255, 255, 0, 1535, 4095]
theorem chargeparklaw12_ChargerWelded.tab9 : rtab .any (opsOf Tryd.f7 9) = chargeparklaw12_ChargerWelded.T9 := by kernel_rfl
theorem chargeparklaw12_ChargerWelded.bits9 : waitsOk chargeparklaw12_ChargerWelded.T9.2 chargeparklaw12_ChargerWelded.B9 = true := by kernel_rfl
def chargeparklaw12_ChargerWelded.T13 : Bool × List (List Nat × List Nat) := (true, [([], []), ([0], [0]), ([1], [1]), ([2, 1], [1, 2]), ([1], [1]), ([3, 4, 1], [1, 3, 4]), ([1, 5], [1, 5]), ([6, 1], [6]), ([7], [7]), ([8, 7], [7, 8]), ([9, 7, 7], [7, 9]), ([10], [10]), ([10], [10]), ([11, 12, 10, 10], [10, 11, 12]), ([10], [10]), ([14, 10], [10, 14]), ([13, 15, 10], [10, 13, 15]), ([16, 13, 10], [10, 16]), ([17], [17]), ([18, 17], [17, 18]), ([19, 17], [17, 19]), ([17, 20, 10], [10, 17, 20]), ([10, 21, 7], [7, 10, 21]), ([7, 22], [7, 22]), ([23, 17, 0, 1, 2, 3, 4, 5, 6, 7, 8, 9, 10, 11, 12, 13, 14, 15, 16, 17, 18, 19, 20, 21, 22, 23], [0, 23])])
def chargeparklaw12_ChargerWelded.B13 : List Nat := [0, 1, 3, 7, 3, 31, 63, 127, 255, 511, 1023, 2047, 2047, 8191, 2047, 18431, 65535, 131071, 262143, 524287, 1048575, 2097151, 4194303, 8388607, 16777215]
theorem chargeparklaw12_ChargerWelded.tab13 : rtab .any (opsOf Tryd.f7 13) = chargeparklaw12_ChargerWelded.T13 := by kernel_rfl
theorem chargeparklaw12_ChargerWelded.bits13 : waitsOk chargeparklaw12_ChargerWelded.T13.2 chargeparklaw12_ChargerWelded.B13 = true := by kernel_rfl
set_option maxHeartbeats 8000000 in
set_option maxRecDepth 100000 in
theorem chargeparklaw12_ChargerWelded.calls (k : Nat) (a0_0 : ByteArray) (a0_1 : Int) (a0_2 : Int) (a0_3 : Int) (a0_4 : Int) (a0_5 : Int) (a0_6 : Int) (a0_7 : Int) (a1_0 : Int) (a1_1 : Int) (a1_2 : Int) (a1_3 : Bool) (A2 : Option Addr) (c2 : Nat) (l2 : List (S27)) (r : Bool) (w : World) (hG : Hand.G w) (hr2 : Kd.C k27 w A2 l2.length l2) (hc2 : l2.length ≤ c2) (h : chargeparklaw12_ChargerWelded.f k a0_0 a0_1 a0_2 a0_3 a0_4 a0_5 a0_6 a0_7 a1_0 a1_1 a1_2 a1_3 l2 = some r) (hr : Aside0 (r = true)) :
  Calls Tryd.prog 7 #[.agg #[.string a0_0, .int .i64 a0_1, .int .i64 a0_2, .int .i64 a0_3, .int .i64 a0_4, .int .i64 a0_5, .int .i64 a0_6, .int .i64 a0_7], .agg #[.int .i64 a1_0, .int .i64 a1_1, .int .i64 a1_2, .bool a1_3], .slice A2 l2.length c2] w fun e w' => e = .returned (.bool r) ∧ Below w.heap.size w w' := by
 have hu23 := Tryd.underlying23
 have hu25 := Tryd.underlying25
 have hu27 := Tryd.underlying27
 have HR2 := Aside0.mk hr2
 have HC2 := Aside0.mk hc2
 clear hr2 hc2
 have HB := Aside0.mk (Below.refl w.heap.size w)
 have H : ((chargeparklaw12_head_c.f).bind fun _ => ((chargeparkref12_Valid.f k a0_0 a0_1 a0_2 a0_3 a0_4 a0_5 a0_6 a0_7 a1_0 a1_1 a1_2 a1_3).bind fun t298 => (if t298 = true then (chargeparklaw12_ChargerWelded.j0 k l2 true (decide ((l2.length : Int) > 100)) a0_0 a0_1 a0_2 a0_3 a0_4 a0_5 a0_6 a0_7 a1_0 a1_1 a1_2 a1_3) else (chargeparklaw12_ChargerWelded.j0 k l2 true true a0_0 a0_1 a0_2 a0_3 a0_4 a0_5 a0_6 a0_7 a1_0 a1_1 a1_2 a1_3)))) = some r := h
 clear h
 replace H := Option.bind_eq_some_iff.mp H
 obtain ⟨tc_, A40, H⟩ := H
 obtain rfl : true = tc_ := Option.some.inj ((show chargeparklaw12_head_c.f = some true by kernel_rfl).symm.trans A40)
 replace H : ((chargeparkref12_Valid.f k a0_0 a0_1 a0_2 a0_3 a0_4 a0_5 a0_6 a0_7 a1_0 a1_1 a1_2 a1_3).bind fun t298 => (if t298 = true then (chargeparklaw12_ChargerWelded.j0 k l2 true (decide ((l2.length : Int) > 100)) a0_0 a0_1 a0_2 a0_3 a0_4 a0_5 a0_6 a0_7 a1_0 a1_1 a1_2 a1_3) else (chargeparklaw12_ChargerWelded.j0 k l2 true true a0_0 a0_1 a0_2 a0_3 a0_4 a0_5 a0_6 a0_7 a1_0 a1_1 a1_2 a1_3))) = some r := H
 have A4 := Aside0.mk A40
 clear A40
 replace H := Option.bind_eq_some_iff.mp H
 obtain ⟨t298, A50, H⟩ := H
 replace H : (if t298 = true then (chargeparklaw12_ChargerWelded.j0 k l2 true (decide ((l2.length : Int) > 100)) a0_0 a0_1 a0_2 a0_3 a0_4 a0_5 a0_6 a0_7 a1_0 a1_1 a1_2 a1_3) else (chargeparklaw12_ChargerWelded.j0 k l2 true true a0_0 a0_1 a0_2 a0_3 a0_4 a0_5 a0_6 a0_7 a1_0 a1_1 a1_2 a1_3)) = some r := H
 have A5 := Aside0.mk A50
 clear A50
 have HC6 := Aside0.mk H
 clear H
 go_enter Tryd.func7, Tryd.ntmps7
 go_upto_region 3 with (first | ((with_reducible refine gate_dst (N := 3) rfl ?_); (try (refine gate_guard (by rfl) ?_; dsimp only)); refine box_event ?hg (N := 3) ?hd (cs := #[.string a0_0, .int .i64 a0_1, .int .i64 a0_2, .int .i64 a0_3, .int .i64 a0_4, .int .i64 a0_5, .int .i64 a0_6, .int .i64 a0_7]) (t := 23) ?hr ?_; (case hd => rfl); (case hg => rfl); (case hr => first | (go_simp; done) | (go_simp; rfl)); intro gb296 hg w7 hbox hb; have n0_ := Aside0.mk (below_step (by repeat (first | (with_reducible first | exact HB.out | apply below_alloc | apply pw_below_drewN | apply below_drew1) | exact HB.out)) hb); have n1_ := Aside0.mk (hbox); have n2_ := Aside0.mk ((by rw [hg]; exact (below_size (by repeat (first | (with_reducible first | exact HB.out | apply below_alloc | apply pw_below_drewN | apply below_drew1) | exact HB.out))) : w.heap.size ≤ gb296)); have n3_ := Aside0.mk ((by rw [hg]; exact (below_size (by repeat (first | (with_reducible first | exact HB.out | apply below_alloc | apply pw_below_drewN | apply below_drew1) | exact HB.out))) : w.heap.size ≤ gb296)); clear HB; have HB := n0_; have BK296 := n1_; have GW296 := n2_; have GE296 := n3_; clear n0_ n1_ n2_ n3_; clear hb hbox hg) | ((with_reducible refine gate_dst (N := 4) rfl ?_); (try (refine gate_guard (by rfl) ?_; dsimp only)); refine box_event ?hg (N := 4) ?hd (cs := #[.int .i64 a1_0, .int .i64 a1_1, .int .i64 a1_2, .bool a1_3]) (t := 25) ?hr ?_; (case hd => rfl); (case hg => rfl); (case hr => first | (go_simp; done) | (go_simp; rfl)); intro gb297 hg w8 hbox hb; have n0_ := Aside0.mk (blk_below (g := gb296) (o := .cells #[.string a0_0, .int .i64 a0_1, .int .i64 a0_2, .int .i64 a0_3, .int .i64 a0_4, .int .i64 a0_5, .int .i64 a0_6, .int .i64 a0_7] 23 (0, 0)) (by (with_reducible repeat (first | refine blk_drewN ?_ _ | refine blk_drew ?_ | refine blk_alloc ?_ _)); exact BK296.out) hb); have n1_ := Aside0.mk (below_step (by repeat (first | (with_reducible first | exact HB.out | apply below_alloc | apply pw_below_drewN | apply below_drew1 | refine below_set ?_ GE296.out) | exact HB.out)) hb); have n2_ := Aside0.mk (hbox); have n3_ := Aside0.mk ((by rw [hg]; exact (below_size (by repeat (first | (with_reducible first | exact HB.out | apply below_alloc | apply pw_below_drewN | apply below_drew1 | refine below_set ?_ GE296.out) | exact HB.out))) : w.heap.size ≤ gb297)); have n4_ := Aside0.mk ((by rw [hg]; exact (below_size (by repeat (first | (with_reducible first | exact HB.out | apply below_alloc | apply pw_below_drewN | apply below_drew1 | refine below_set ?_ GE296.out) | exact HB.out))) : w.heap.size ≤ gb297)); have n5_ := Aside0.mk ((by rw [hg]; exact Nat.ne_of_lt (blk_lt (g := gb296) (o := .cells #[.string a0_0, .int .i64 a0_1, .int .i64 a0_2, .int .i64 a0_3, .int .i64 a0_4, .int .i64 a0_5, .int .i64 a0_6, .int .i64 a0_7] 23 (0, 0)) (by (with_reducible repeat (first | refine blk_drewN ?_ _ | refine blk_drew ?_ | refine blk_alloc ?_ _)); exact BK296.out)) : gb296 ≠ gb297)); have n6_ := Aside0.mk ((by rw [hg]; exact Nat.ne_of_gt (blk_lt (g := gb296) (o := .cells #[.string a0_0, .int .i64 a0_1, .int .i64 a0_2, .int .i64 a0_3, .int .i64 a0_4, .int .i64 a0_5, .int .i64 a0_6, .int .i64 a0_7] 23 (0, 0)) (by (with_reducible repeat (first | refine blk_drewN ?_ _ | refine blk_drew ?_ | refine blk_alloc ?_ _)); exact BK296.out)) : gb297 ≠ gb296)); clear BK296; clear HB; have BK296 := n0_; have HB := n1_; have BK297 := n2_; have GW297 := n3_; have GE297 := n4_; have NB296_297 := n5_; have NB297_296 := n6_; clear n0_ n1_ n2_ n3_ n4_ n5_ n6_; clear hb hbox hg) | ((with_reducible refine gate_callee (f := 10) rfl ?_); refine goesL_ (some 13) rfl rfl Tryd.func10 (by kernel_rfl) rfl #[] rfl (by (try simp only [List.map_toArray, List.map_cons, List.map_nil]); first | done | rfl | (simp only [List.length_drop, List.length_take]; rfl)) ?_; (with_reducible refine (chargeparklaw12_head_c.calls  true _ (hG.below (by repeat (first | (with_reducible first | exact HB.out | apply below_alloc | apply pw_below_drewN | apply below_drew1) | exact HB.out | (refine Below.setCell ?_ (Aside0.out (by assumption)) _)))) A4.out).mono ?_); rintro e w9 ⟨rfl, hb⟩; refine ⟨_, rfl, ?_⟩; have n0_ := Aside0.mk (blk_below (g := gb296) (o := .cells #[.string a0_0, .int .i64 a0_1, .int .i64 a0_2, .int .i64 a0_3, .int .i64 a0_4, .int .i64 a0_5, .int .i64 a0_6, .int .i64 a0_7] 23 (0, 0)) (by (with_reducible repeat (first | refine blk_drewN ?_ _ | refine blk_drew ?_ | refine blk_alloc ?_ _)); exact BK296.out) hb); have n1_ := Aside0.mk (blk_below (g := gb297) (o := .cells #[.int .i64 a1_0, .int .i64 a1_1, .int .i64 a1_2, .bool a1_3] 25 (0, 0)) (by (with_reducible repeat (first | refine blk_drewN ?_ _ | refine blk_drew ?_ | refine blk_alloc ?_ _)); exact BK297.out) hb); have n2_ := Aside0.mk (below_step (by repeat (first | (with_reducible first | exact HB.out | apply below_alloc | apply pw_below_drewN | apply below_drew1 | refine below_set ?_ GE296.out | refine below_set ?_ GE297.out) | exact HB.out)) hb); clear BK296; clear BK297; clear HB; have BK296 := n0_; have BK297 := n1_; have HB := n2_; clear n0_ n1_ n2_; (try clear hb); (try clear hb2); (try clear hk); (try clear hi); have hnb10 := NB296_297.out; have hnc10 := NB297_296.out; have hcz11_0 : w9.cell? ⟨gb296, 0, none⟩ = some (.string a0_0) := (blk_cell BK296.out 0).trans rfl; have hcz11_1 : w9.cell? ⟨gb296, 1, none⟩ = some (.int .i64 a0_1) := (blk_cell BK296.out 1).trans rfl; have hcz11_2 : w9.cell? ⟨gb296, 2, none⟩ = some (.int .i64 a0_2) := (blk_cell BK296.out 2).trans rfl; have hcz11_3 : w9.cell? ⟨gb296, 3, none⟩ = some (.int .i64 a0_3) := (blk_cell BK296.out 3).trans rfl; have hcz11_4 : w9.cell? ⟨gb296, 4, none⟩ = some (.int .i64 a0_4) := (blk_cell BK296.out 4).trans rfl; have hcz11_5 : w9.cell? ⟨gb296, 5, none⟩ = some (.int .i64 a0_5) := (blk_cell BK296.out 5).trans rfl; have hcz11_6 : w9.cell? ⟨gb296, 6, none⟩ = some (.int .i64 a0_6) := (blk_cell BK296.out 6).trans rfl; have hcz11_7 : w9.cell? ⟨gb296, 7, none⟩ = some (.int .i64 a0_7) := (blk_cell BK296.out 7).trans rfl; have hfz11_0 := blk_frozen BK296.out 0; have hfz11_1 := blk_frozen BK296.out 1; have hfz11_2 := blk_frozen BK296.out 2; have hfz11_3 := blk_frozen BK296.out 3; have hfz11_4 := blk_frozen BK296.out 4; have hfz11_5 := blk_frozen BK296.out 5; have hfz11_6 := blk_frozen BK296.out 6; have hfz11_7 := blk_frozen BK296.out 7; have hcz12_0 : w9.cell? ⟨gb297, 0, none⟩ = some (.int .i64 a1_0) := (blk_cell BK297.out 0).trans rfl; have hcz12_1 : w9.cell? ⟨gb297, 1, none⟩ = some (.int .i64 a1_1) := (blk_cell BK297.out 1).trans rfl; have hcz12_2 : w9.cell? ⟨gb297, 2, none⟩ = some (.int .i64 a1_2) := (blk_cell BK297.out 2).trans rfl; have hcz12_3 : w9.cell? ⟨gb297, 3, none⟩ = some (.bool a1_3) := (blk_cell BK297.out 3).trans rfl; have hfz12_0 := blk_frozen BK297.out 0; have hfz12_1 := blk_frozen BK297.out 1; have hfz12_2 := blk_frozen BK297.out 2; have hfz12_3 := blk_frozen BK297.out 3) | ((with_reducible refine gate_callee (f := 14) rfl ?_); refine goesL_ (some 16) rfl rfl Tryd.func14 (by kernel_rfl) rfl #[.agg #[.string a0_0, .int .i64 a0_1, .int .i64 a0_2, .int .i64 a0_3, .int .i64 a0_4, .int .i64 a0_5, .int .i64 a0_6, .int .i64 a0_7], .agg #[.int .i64 a1_0, .int .i64 a1_1, .int .i64 a1_2, .bool a1_3]] rfl (by (try simp only [List.map_toArray, List.map_cons, List.map_nil]); first | done | rfl | (simp only [List.length_drop, List.length_take]; rfl)) ?_; (with_reducible refine (chargeparkref12_Valid.calls k a0_0 a0_1 a0_2 a0_3 a0_4 a0_5 a0_6 a0_7 a1_0 a1_1 a1_2 a1_3 t298 _ A5.out).mono ?_); rintro e w13 ⟨rfl, hb⟩; refine ⟨_, rfl, ?_⟩; have n0_ := Aside0.mk (blk_below (g := gb296) (o := .cells #[.string a0_0, .int .i64 a0_1, .int .i64 a0_2, .int .i64 a0_3, .int .i64 a0_4, .int .i64 a0_5, .int .i64 a0_6, .int .i64 a0_7] 23 (0, 0)) (by (with_reducible repeat (first | refine blk_drewN ?_ _ | refine blk_drew ?_ | refine blk_alloc ?_ _)); exact BK296.out) hb); have n1_ := Aside0.mk (blk_below (g := gb297) (o := .cells #[.int .i64 a1_0, .int .i64 a1_1, .int .i64 a1_2, .bool a1_3] 25 (0, 0)) (by (with_reducible repeat (first | refine blk_drewN ?_ _ | refine blk_drew ?_ | refine blk_alloc ?_ _)); exact BK297.out) hb); have n2_ := Aside0.mk (below_step (by repeat (first | (with_reducible first | exact HB.out | apply below_alloc | apply pw_below_drewN | apply below_drew1 | refine below_set ?_ GE296.out | refine below_set ?_ GE297.out) | exact HB.out)) hb); clear BK296; clear BK297; clear HB; have BK296 := n0_; have BK297 := n1_; have HB := n2_; clear n0_ n1_ n2_; (try clear hb); (try clear hb2); (try clear hk); (try clear hi)))
 (try simp only [Act.put, List.setIfInBounds_toArray, List.set_cons_zero, List.set_cons_succ])
 go_cut [23] (fun v23 wc => ∃ (kq : Nat) (x23_5 : Bool), v23 = .bool x23_5 ∧ Aside0 (chargeparklaw12_ChargerWelded.j0 kq l2 true x23_5 a0_0 a0_1 a0_2 a0_3 a0_4 a0_5 a0_6 a0_7 a1_0 a1_1 a1_2 a1_3 = some r) ∧ Aside0 (kq ≤ k) ∧ Aside0 (wc.heap[gb296]? = some (.cells #[.string a0_0, .int .i64 a0_1, .int .i64 a0_2, .int .i64 a0_3, .int .i64 a0_4, .int .i64 a0_5, .int .i64 a0_6, .int .i64 a0_7] 23 (0, 0))) ∧ Aside0 (wc.heap[gb297]? = some (.cells #[.int .i64 a1_0, .int .i64 a1_1, .int .i64 a1_2, .bool a1_3] 25 (0, 0))) ∧ Aside0 (Below w.heap.size w wc))
 case first =>
  have H := HC6.out
  clear HC6
  by_cases c14 : t298 = true
  ·subst c14
   have H1 : (chargeparklaw12_ChargerWelded.j0 k l2 true (decide ((l2.length : Int) > 100)) a0_0 a0_1 a0_2 a0_3 a0_4 a0_5 a0_6 a0_7 a1_0 a1_1 a1_2 a1_3) = some r := by rw [if_pos rfl] at H; exact H
   clear H
   have H := H1
   clear H1
   have H' := Aside0.mk H
   clear H
   go_wp2
   go_meet
   case rel => exact ⟨_, (decide ((l2.length : Int) > 100)), (by first | rfl | (simp; done) | (simp [*]; done)), H', ⟨by first | omega | exact Nat.le_refl _⟩, ⟨by (with_reducible repeat (first | refine blk_drewN ?_ _ | refine blk_drew ?_ | refine blk_alloc ?_ _)); exact BK296.out⟩, ⟨by (with_reducible repeat (first | refine blk_drewN ?_ _ | refine blk_drew ?_ | refine blk_alloc ?_ _)); exact BK297.out⟩, ⟨by repeat (first | (with_reducible first | exact HB.out | apply below_alloc | apply pw_below_drewN | apply below_drew1 | refine below_set ?_ GE296.out | refine below_set ?_ GE297.out) | exact HB.out)⟩⟩
  ·replace c14 := Bool.eq_false_iff.mpr c14
   subst c14
   have H1 : (chargeparklaw12_ChargerWelded.j0 k l2 true true a0_0 a0_1 a0_2 a0_3 a0_4 a0_5 a0_6 a0_7 a1_0 a1_1 a1_2 a1_3) = some r := by rw [if_neg (show ¬ (false = true) by decide)] at H; exact H
   clear H
   have H := H1
   clear H1
   have H' := Aside0.mk H
   clear H
   go_wp2
   go_meet
   case rel => exact ⟨_, (true), (by first | rfl | (simp; done) | (simp [*]; done)), H', ⟨by first | omega | exact Nat.le_refl _⟩, ⟨by (with_reducible repeat (first | refine blk_drewN ?_ _ | refine blk_drew ?_ | refine blk_alloc ?_ _)); exact BK296.out⟩, ⟨by (with_reducible repeat (first | refine blk_drewN ?_ _ | refine blk_drew ?_ | refine blk_alloc ?_ _)); exact BK297.out⟩, ⟨by repeat (first | (with_reducible first | exact HB.out | apply below_alloc | apply pw_below_drewN | apply below_drew1 | refine below_set ?_ GE296.out | refine below_set ?_ GE297.out) | exact HB.out)⟩⟩
 case rest =>
  clear HC6
  try clear c1
  try clear c2
  try clear p2
  try clear c7
  try clear c10
  try clear c14
  try clear hcz11_0
  try clear hcz11_1
  try clear hcz11_2
  try clear hcz11_3
  try clear hcz11_4
  try clear hcz11_5
  try clear hcz11_6
  try clear hcz11_7
  try clear hcz12_0
  try clear hcz12_1
  try clear hcz12_2
  try clear hcz12_3
  try clear hfz11_0
  try clear hfz11_1
  try clear hfz11_2
  try clear hfz11_3
  try clear hfz11_4
  try clear hfz11_5
  try clear hfz11_6
  try clear hfz11_7
  try clear hfz12_0
  try clear hfz12_1
  try clear hfz12_2
  try clear hfz12_3
  obtain ⟨kq, x23_5, rfl, HA, HJ5, BK296, BK297, HB⟩ := hcut
  cases kq with
  | zero => exact absurd HA.out (by simp [chargeparklaw12_ChargerWelded.j0])
  | succ kj5 =>
   have H := HA.out
   clear HA
   simp only [chargeparklaw12_ChargerWelded.j0] at H
   by_cases c15 : x23_5 = true
   ·subst c15
    have H1 : (some true) = some r := by rw [if_pos rfl] at H; exact H
    clear H
    have H := H1
    clear H1
    obtain rfl := Option.some.inj H
    simp only [Option.some.injEq, Prod.mk.injEq] at H
    obtain ⟨rfl⟩ := H
    go_wp2
    go_ret
    exact ⟨by first | rfl | (simp [errW_none, errW_some] <;> rfl) | (simp [*, errW_none, errW_some] <;> rfl), by repeat (first | (with_reducible first | exact HB.out | apply below_alloc | apply pw_below_drewN | apply below_drew1 | refine below_set ?_ GE296.out | refine below_set ?_ GE297.out) | exact HB.out)⟩
   ·replace c15 := Bool.eq_false_iff.mpr c15
    subst c15
    have H1 : (chargeparklaw12_ChargerWelded.l0 kj5 l2 true a1_3 0 a0_0 a0_1 a0_2 a0_3 a0_4 a0_5 a0_6 a0_7 a1_0 a1_1 a1_2 a1_3) = some r := by rw [if_neg (show ¬ (false = true) by decide)] at H; exact H
    clear H
    have H := H1
    clear H1
    have H' := Aside0.mk H
    clear H
    have hnb16 := NB297_296.out
    have hnc16 := NB296_297.out
    have hcz17_0 : wc.cell? ⟨gb297, 0, none⟩ = some (.int .i64 a1_0) := (blk_cell BK297.out 0).trans rfl
    have hcz17_1 : wc.cell? ⟨gb297, 1, none⟩ = some (.int .i64 a1_1) := (blk_cell BK297.out 1).trans rfl
    have hcz17_2 : wc.cell? ⟨gb297, 2, none⟩ = some (.int .i64 a1_2) := (blk_cell BK297.out 2).trans rfl
    have hcz17_3 : wc.cell? ⟨gb297, 3, none⟩ = some (.bool a1_3) := (blk_cell BK297.out 3).trans rfl
    have hfz17_0 := blk_frozen BK297.out 0
    have hfz17_1 := blk_frozen BK297.out 1
    have hfz17_2 := blk_frozen BK297.out 2
    have hfz17_3 := blk_frozen BK297.out 3
    go_wp2
    go_loopg [7, 9, 10] kj5 (fun kq v7 v9 v10 w' => ∃ (x7_2 : Bool) (x9_2 : Bool) (x10_2 : Int) (x298000_2 : Int) (x298001_2 : Int) (x298002_2 : Int) (x298003_2 : Bool), v7 = .bool x7_2 ∧ v9 = .bool x9_2 ∧ v10 = .int .i64 x10_2 ∧ Aside0 (chargeparklaw12_ChargerWelded.l0 kq l2 x7_2 x9_2 x10_2 a0_0 a0_1 a0_2 a0_3 a0_4 a0_5 a0_6 a0_7 x298000_2 x298001_2 x298002_2 x298003_2 = some r) ∧ Aside0 (kq ≤ kj5) ∧ Aside0 (w'.heap[gb296]? = some (.cells #[.string a0_0, .int .i64 a0_1, .int .i64 a0_2, .int .i64 a0_3, .int .i64 a0_4, .int .i64 a0_5, .int .i64 a0_6, .int .i64 a0_7] 23 (0, 0))) ∧ Aside0 (w'.heap[gb297]? = some (.cells #[.int .i64 x298000_2, .int .i64 x298001_2, .int .i64 x298002_2, .bool x298003_2] 25 (0, 0))) ∧ Aside0 (Below w.heap.size w w'))
    case atStart => exact ⟨(true), (a1_3), (0), (a1_0), (a1_1), (a1_2), (a1_3), (by first | rfl | (simp; done) | (simp [*]; done)), (by first | rfl | (simp; done) | (simp [*]; done)), (by first | rfl | (simp; done) | (simp [*]; done)), H', ⟨Nat.le_refl _⟩, ⟨by (with_reducible repeat (first | refine blk_drewN ?_ _ | refine blk_drew ?_ | refine blk_alloc ?_ _)); exact BK296.out⟩, ⟨by (with_reducible repeat (first | refine blk_drewN ?_ _ | refine blk_drew ?_ | refine blk_alloc ?_ _)); exact BK297.out⟩, ⟨by repeat (first | (with_reducible first | exact HB.out | apply below_alloc | apply pw_below_drewN | apply below_drew1 | refine below_set ?_ GE296.out | refine below_set ?_ GE297.out) | exact HB.out)⟩⟩
    case round =>
     clear H'
     try clear c1
     try clear c2
     try clear p2
     try clear c7
     try clear c10
     try clear c14
     try clear c15
     try clear c16
     try clear hcz11_0
     try clear hcz11_1
     try clear hcz11_2
     try clear hcz11_3
     try clear hcz11_4
     try clear hcz11_5
     try clear hcz11_6
     try clear hcz11_7
     try clear hcz12_0
     try clear hcz12_1
     try clear hcz12_2
     try clear hcz12_3
     try clear hcz17_0
     try clear hcz17_1
     try clear hcz17_2
     try clear hcz17_3
     try clear hfz11_0
     try clear hfz11_1
     try clear hfz11_2
     try clear hfz11_3
     try clear hfz11_4
     try clear hfz11_5
     try clear hfz11_6
     try clear hfz11_7
     try clear hfz12_0
     try clear hfz12_1
     try clear hfz12_2
     try clear hfz12_3
     try clear hfz17_0
     try clear hfz17_1
     try clear hfz17_2
     try clear hfz17_3
     try clear p2
     obtain ⟨x7_2, x9_2, x10_2, x298000_2, x298001_2, x298002_2, x298003_2, rfl, rfl, rfl, HA, HK2, BK296, BK297, HB⟩ := hrel
     cases gk with
     | zero => exact absurd HA.out (by simp [chargeparklaw12_ChargerWelded.l0])
     | succ k2 =>
      have H := HA.out
      clear HA
      simp only [chargeparklaw12_ChargerWelded.l0] at H
      by_cases c18 : x10_2 < (l2.length : Int)
      ·rw [if_pos c18] at H
       have c18b0 : decide (x10_2 < (l2.length : Int)) = true := decide_eq_true c18
       clear c18
       by_cases c19 : 0 ≤ x10_2
       ·rw [if_pos c19] at H
        have c19b0 : decide (0 ≤ x10_2) = true := decide_eq_true c19
        clear c19
        replace H := Option.bind_eq_some_iff.mp H
        obtain ⟨⟨t300, t301, t302, t303, t304⟩, A200, H⟩ := H
        replace H : (if t304 = 0 then (if x9_2 = true then (chargeparklaw12_ChargerWelded.j2 k2 l2 x7_2 true x10_2 a0_0 a0_1 a0_2 a0_3 a0_4 a0_5 a0_6 a0_7 t300 t301 t302 t303) else (if ((rd_T27 l2 x10_2).f0) = 6 then (chargeparklaw12_ChargerWelded.j2 k2 l2 x7_2 (((rd_T27 l2 x10_2).f1) == 1) x10_2 a0_0 a0_1 a0_2 a0_3 a0_4 a0_5 a0_6 a0_7 t300 t301 t302 t303) else (chargeparklaw12_ChargerWelded.j2 k2 l2 x7_2 false x10_2 a0_0 a0_1 a0_2 a0_3 a0_4 a0_5 a0_6 a0_7 t300 t301 t302 t303))) else (chargeparklaw12_ChargerWelded.l0 k2 l2 x7_2 x9_2 (wrap64 (x10_2 + 1)) a0_0 a0_1 a0_2 a0_3 a0_4 a0_5 a0_6 a0_7 x298000_2 x298001_2 x298002_2 x298003_2)) = some r := H
        have A20 := Aside0.mk A200
        clear A200
        by_cases c21 : t304 = 0
        ·rw [if_pos c21] at H
         have c21b0 : (t304 == 0) = true := beq_iff_eq.mpr c21
         have c21b1 : (t304 != 0) = false := bne_eq_false_iff_eq.mpr c21
         clear c21
         have HC22 := Aside0.mk H
         clear H
         try go_wp2
         have n0_ := Aside0.mk (blk_drew BK296.out)
         have n1_ := Aside0.mk (blk_drew BK297.out)
         have n2_ := Aside0.mk (below_drew1 HB.out)
         clear BK296
         clear BK297
         clear HB
         have BK296 := n0_
         have BK297 := n1_
         have HB := n2_
         clear n0_ n1_ n2_
         have p299 : 0 ≤ (x10_2 : Int) := of_decide_eq_true (by first | (with_reducible assumption) | assumption)
         have q299 : x10_2 < (l2.length : Int) := of_decide_eq_true (by first | (with_reducible assumption) | assumption)
         obtain ⟨ad299, e299, hx299_0, hx299_1, hx299_2⟩ := at_T27 HR2.out x10_2 p299 q299
         have hw299_2 := hx299_2
         have hw299_1 := hx299_1
         have hw299_0 := hx299_0
         cases e299
         replace hx299_0 := (HB.out.cell (World.block_lt_of_cell? w _ hx299_0)).trans hx299_0
         replace hx299_1 := (HB.out.cell (World.block_lt_of_cell? w _ hx299_1)).trans hx299_1
         replace hx299_2 := (HB.out.cell (World.block_lt_of_cell? w _ hx299_2)).trans hx299_2
         replace p299 := eq_true p299
         replace q299 := eq_true q299
         refine start_ (n := 13) (S := fun w' => w'.cell? ⟨gb296, 0, none⟩ = some (.string a0_0) ∧ w'.cell? ⟨gb296, 1, none⟩ = some (.int .i64 a0_1) ∧ w'.cell? ⟨gb296, 2, none⟩ = some (.int .i64 a0_2) ∧ w'.cell? ⟨gb296, 3, none⟩ = some (.int .i64 a0_3) ∧ w'.cell? ⟨gb296, 4, none⟩ = some (.int .i64 a0_4) ∧ w'.cell? ⟨gb296, 5, none⟩ = some (.int .i64 a0_5) ∧ w'.cell? ⟨gb296, 6, none⟩ = some (.int .i64 a0_6) ∧ w'.cell? ⟨gb296, 7, none⟩ = some (.int .i64 a0_7) ∧ w'.cell? ⟨gb297, 0, none⟩ = some (.int .i64 x298000_2) ∧ w'.cell? ⟨gb297, 1, none⟩ = some (.int .i64 x298001_2) ∧ w'.cell? ⟨gb297, 2, none⟩ = some (.int .i64 x298002_2) ∧ w'.cell? ⟨gb297, 3, none⟩ = some (.bool x298003_2) ∧ w'.cell? (ad299.add ((x10_2).toNat * 3)) = some (.int .i64 ((rd_T27 l2 x10_2).f0)) ∧ w'.cell? ⟨(ad299.add ((x10_2).toNat * 3)).block, (ad299.add ((x10_2).toNat * 3)).off + 1, none⟩ = some (.int .i64 ((rd_T27 l2 x10_2).f1)) ∧ w'.cell? ⟨(ad299.add ((x10_2).toNat * 3)).block, (ad299.add ((x10_2).toNat * 3)).off + 2, none⟩ = some (.int .i64 ((rd_T27 l2 x10_2).f2))) (ds := []) #[false, false, false, false, false, false, false, false, false, false, false, false, false] (by kernel_rfl) rfl rfl ⟨(blk_cell BK296.out 0).trans rfl, (blk_cell BK296.out 1).trans rfl, (blk_cell BK296.out 2).trans rfl, (blk_cell BK296.out 3).trans rfl, (blk_cell BK296.out 4).trans rfl, (blk_cell BK296.out 5).trans rfl, (blk_cell BK296.out 6).trans rfl, (blk_cell BK296.out 7).trans rfl, (blk_cell BK297.out 0).trans rfl, (blk_cell BK297.out 1).trans rfl, (blk_cell BK297.out 2).trans rfl, (blk_cell BK297.out 3).trans rfl, ((HB.out.cell (World.block_lt_of_cell? w _ hw299_0)).trans hw299_0), ((HB.out.cell (World.block_lt_of_cell? w _ hw299_1)).trans hw299_1), ((HB.out.cell (World.block_lt_of_cell? w _ hw299_2)).trans hw299_2)⟩ (fun hHeld => ?_); refine with_tabW chargeparklaw12_ChargerWelded.tab9 chargeparklaw12_ChargerWelded.bits9 (fun HT_ HW_ => ?_)
         generalize wr.drew = w23 at BK296 BK297 HB hx299_0 hx299_1 hx299_2 hHeld ⊢
         refine pure_ (i := 2) (N := some 36) (v := ?_) (a' := ?_) #[false, false, true, false, false, false, false, false, false, false, false, false, false] rfl rfl (any_of HT_.out (by kernel_rfl)) (fun _ _ _ h => h) (Or.inl ⟨by rfl, ?_⟩) ?_ ?_
         rotate_left
         ·intro w'
          go_simp
          with_reducible rfl
         rotate_left
         ·simp only [Act.put, List.setIfInBounds_toArray, List.set_cons_zero, List.set_cons_succ, i64_w, i32_w]
          rfl
         refine pure_ (i := 3) (N := some 37) (v := ?_) (a' := ?_) #[false, false, true, true, false, false, false, false, false, false, false, false, false] rfl rfl (any_of HT_.out (by kernel_rfl)) (fun _ _ _ h => h) (Or.inl ⟨by rfl, ?_⟩) ?_ ?_
         rotate_left
         ·intro w'
          go_simp
          with_reducible rfl
         rotate_left
         ·simp only [Act.put, List.setIfInBounds_toArray, List.set_cons_zero, List.set_cons_succ, i64_w, i32_w]
          rfl
         refine pure_ (i := 4) (N := some 38) (v := ?_) (a' := ?_) #[false, false, true, true, true, false, false, false, false, false, false, false, false] rfl rfl (any_of HT_.out (by kernel_rfl)) (fun _ _ _ h => h) (Or.inl ⟨by rfl, ?_⟩) ?_ ?_
         rotate_left
         ·intro w'
          go_simp
          with_reducible rfl
         rotate_left
         ·simp only [Act.put, List.setIfInBounds_toArray, List.set_cons_zero, List.set_cons_succ, i64_w, i32_w]
          rfl
         refine take_ (i := 0) (N := some 34) (v := ?_) (a' := ?_) #[true, false, true, true, true, false, false, false, false, false, false, false, false] rfl rfl (take_ofW HT_.out HW_.out (by kernel_rfl)) (fun _ _ _ h => h) (Or.inl ⟨by rfl, ?_⟩) hHeld ?_ ?_
         rotate_left
         ·rintro w' ⟨s0, s1, s2, s3, s4, s5, s6, s7, s8, s9, s10, s11, s12, s13, s14⟩
          go_simp
          with_reducible rfl
         rotate_left
         ·simp only [Act.put, List.setIfInBounds_toArray, List.set_cons_zero, List.set_cons_succ, i64_w, i32_w]
          rfl
         refine take_ (i := 1) (N := some 35) (v := ?_) (a' := ?_) #[true, true, true, true, true, false, false, false, false, false, false, false, false] rfl rfl (take_ofW HT_.out HW_.out (by kernel_rfl)) (fun _ _ _ h => h) (Or.inl ⟨by rfl, ?_⟩) hHeld ?_ ?_
         rotate_left
         ·rintro w' ⟨s0, s1, s2, s3, s4, s5, s6, s7, s8, s9, s10, s11, s12, s13, s14⟩
          go_simp
          with_reducible rfl
         rotate_left
         ·simp only [Act.put, List.setIfInBounds_toArray, List.set_cons_zero, List.set_cons_succ, i64_w, i32_w]
          rfl
         refine take_ (i := 5) (N := some 39) (v := ?_) (a' := ?_) #[true, true, true, true, true, true, false, false, false, false, false, false, false] rfl rfl (take_ofW HT_.out HW_.out (by kernel_rfl)) (fun _ _ _ h => h) (Or.inl ⟨by rfl, ?_⟩) hHeld ?_ ?_
         rotate_left
         ·rintro w' ⟨s0, s1, s2, s3, s4, s5, s6, s7, s8, s9, s10, s11, s12, s13, s14⟩
          go_simp
          with_reducible rfl
         rotate_left
         ·simp only [Act.put, List.setIfInBounds_toArray, List.set_cons_zero, List.set_cons_succ, i64_w, i32_w]
          rfl
         refine join_ (σ := Nat) 2 #[true, true, true, true, true, true, true, true, true, true, true, false, false] (fun s_ => [(40, .tuple #[.agg #[.int .i64 t300, .int .i64 t301, .int .i64 t302, .bool t303], .int .i64 t304]), (11, .pointer (some ⟨s_, 0, none⟩)), (33, .tuple #[.agg #[.int .i64 t300, .int .i64 t301, .int .i64 t302, .bool t303], .int .i64 t304]), (41, .agg #[.int .i64 t300, .int .i64 t301, .int .i64 t302, .bool t303]), (42, .int .i64 t304)]) (fun s_ w' => (w'.cell? ⟨gb296, 0, none⟩ = some (.string a0_0) ∧ w'.cell? ⟨gb296, 1, none⟩ = some (.int .i64 a0_1) ∧ w'.cell? ⟨gb296, 2, none⟩ = some (.int .i64 a0_2) ∧ w'.cell? ⟨gb296, 3, none⟩ = some (.int .i64 a0_3) ∧ w'.cell? ⟨gb296, 4, none⟩ = some (.int .i64 a0_4) ∧ w'.cell? ⟨gb296, 5, none⟩ = some (.int .i64 a0_5) ∧ w'.cell? ⟨gb296, 6, none⟩ = some (.int .i64 a0_6) ∧ w'.cell? ⟨gb296, 7, none⟩ = some (.int .i64 a0_7) ∧ w'.cell? ⟨gb297, 0, none⟩ = some (.int .i64 x298000_2) ∧ w'.cell? ⟨gb297, 1, none⟩ = some (.int .i64 x298001_2) ∧ w'.cell? ⟨gb297, 2, none⟩ = some (.int .i64 x298002_2) ∧ w'.cell? ⟨gb297, 3, none⟩ = some (.bool x298003_2) ∧ w'.cell? (ad299.add ((x10_2).toNat * 3)) = some (.int .i64 ((rd_T27 l2 x10_2).f0)) ∧ w'.cell? ⟨(ad299.add ((x10_2).toNat * 3)).block, (ad299.add ((x10_2).toNat * 3)).off + 1, none⟩ = some (.int .i64 ((rd_T27 l2 x10_2).f1)) ∧ w'.cell? ⟨(ad299.add ((x10_2).toNat * 3)).block, (ad299.add ((x10_2).toNat * 3)).off + 2, none⟩ = some (.int .i64 ((rd_T27 l2 x10_2).f2))) ∧ (w'.heap[gb296]? = some (.cells #[.string a0_0, .int .i64 a0_1, .int .i64 a0_2, .int .i64 a0_3, .int .i64 a0_4, .int .i64 a0_5, .int .i64 a0_6, .int .i64 a0_7] 23 (0, 0))) ∧ (w'.heap[gb297]? = some (.cells #[.int .i64 x298000_2, .int .i64 x298001_2, .int .i64 x298002_2, .bool x298003_2] 25 (0, 0))) ∧ (w'.heap[s_]? = some (.cells #[.int .i64 0, .int .i64 0, .int .i64 0, .bool false] 25 (0, 0))) ∧ (w.heap.size ≤ s_) ∧ (w.heap.size ≤ s_) ∧ (gb296 ≠ s_) ∧ (s_ ≠ gb296) ∧ (gb297 ≠ s_) ∧ (s_ ≠ gb297) ∧ (Below w.heap.size w w')) ?_ ?_
         rotate_left
         ·intro hCont
          refine two_ (i := 6) (j := 10) (Ni := some 40) (Nj := some 11) #[true, true, true, true, true, true, true, false, false, false, false, false, false] #[true, true, true, true, true, true, false, false, false, false, true, false, false] rfl rfl rfl rfl (two_of HT_.out (by kernel_rfl)) (by decide) (by decide) (fun K hK => ?_) (fun K hK => ?_)
          ·skip
           refine goes_ Tryd.func11 (by kernel_rfl) rfl #[.agg #[.string a0_0, .int .i64 a0_1, .int .i64 a0_2, .int .i64 a0_3, .int .i64 a0_4, .int .i64 a0_5, .int .i64 a0_6, .int .i64 a0_7], .agg #[.int .i64 x298000_2, .int .i64 x298001_2, .int .i64 x298002_2, .bool x298003_2], .agg #[.int .i64 ((rd_T27 l2 x10_2).f0), .int .i64 ((rd_T27 l2 x10_2).f1), .int .i64 ((rd_T27 l2 x10_2).f2)]] (by rfl) rfl rfl (by (try simp only [List.map_toArray, List.map_cons, List.map_nil]); first | done | rfl | (simp only [List.length_drop, List.length_take]; rfl)) ?_
           with_reducible refine (charger_Step.calls a0_0 a0_1 a0_2 a0_3 a0_4 a0_5 a0_6 a0_7 x298000_2 x298001_2 x298002_2 x298003_2 ((rd_T27 l2 x10_2).f0) ((rd_T27 l2 x10_2).f1) ((rd_T27 l2 x10_2).f2) t300 t301 t302 t303 t304 _ (hG.below (by repeat (first | (with_reducible first | exact HB.out | apply below_alloc | apply pw_below_drewN | apply below_drew1) | exact HB.out | (refine Below.setCell ?_ (Aside0.out (by assumption)) _)))) A20.out).mono ?_
           rintro e w24 ⟨rfl, hb⟩
           refine ⟨_, rfl, ?_⟩
           have n0_ := Aside0.mk (blk_below (g := gb296) (o := .cells #[.string a0_0, .int .i64 a0_1, .int .i64 a0_2, .int .i64 a0_3, .int .i64 a0_4, .int .i64 a0_5, .int .i64 a0_6, .int .i64 a0_7] 23 (0, 0)) (by (with_reducible repeat (first | refine blk_drewN ?_ _ | refine blk_drew ?_ | refine blk_alloc ?_ _)); exact BK296.out) hb)
           have n1_ := Aside0.mk (blk_below (g := gb297) (o := .cells #[.int .i64 x298000_2, .int .i64 x298001_2, .int .i64 x298002_2, .bool x298003_2] 25 (0, 0)) (by (with_reducible repeat (first | refine blk_drewN ?_ _ | refine blk_drew ?_ | refine blk_alloc ?_ _)); exact BK297.out) hb)
           have n2_ := Aside0.mk (below_step (by repeat (first | (with_reducible first | exact HB.out | apply below_alloc | apply pw_below_drewN | apply below_drew1 | refine below_set ?_ GE296.out | refine below_set ?_ GE297.out) | exact HB.out)) hb)
           clear BK296
           clear BK297
           clear HB
           have BK296 := n0_
           have BK297 := n1_
           have HB := n2_
           clear n0_ n1_ n2_
           (try clear hb)
           (try clear hb2)
           (try clear hk)
           (try clear hi)
           refine hK.out _ _ ⟨(blk_cell BK296.out 0).trans rfl, (blk_cell BK296.out 1).trans rfl, (blk_cell BK296.out 2).trans rfl, (blk_cell BK296.out 3).trans rfl, (blk_cell BK296.out 4).trans rfl, (blk_cell BK296.out 5).trans rfl, (blk_cell BK296.out 6).trans rfl, (blk_cell BK296.out 7).trans rfl, (blk_cell BK297.out 0).trans rfl, (blk_cell BK297.out 1).trans rfl, (blk_cell BK297.out 2).trans rfl, (blk_cell BK297.out 3).trans rfl, ((HB.out.cell (World.block_lt_of_cell? w _ hw299_0)).trans hw299_0), ((HB.out.cell (World.block_lt_of_cell? w _ hw299_1)).trans hw299_1), ((HB.out.cell (World.block_lt_of_cell? w _ hw299_2)).trans hw299_2)⟩ (fun hHeld => ?_)
           clear hK K
           refine norm_ (a' := ?_) ?_ ?_
           rotate_left
           ·show Act.put _ (some 40) _ = _
            simp only [Act.put, List.setIfInBounds_toArray, List.set_cons_zero, List.set_cons_succ, i64_w, i32_w]
            rfl
           refine pure_ (i := 7) (N := some 33) (v := ?_) (a' := ?_) #[true, true, true, true, true, true, true, true, false, false, false, false, false] rfl rfl (any_of HT_.out (by kernel_rfl)) (fun _ _ _ h => h) (Or.inl ⟨by rfl, ?_⟩) ?_ ?_
           rotate_left
           ·intro w'
            go_simp
            with_reducible rfl
           rotate_left
           ·simp only [Act.put, List.setIfInBounds_toArray, List.set_cons_zero, List.set_cons_succ, i64_w, i32_w]
            rfl
           refine pure_ (i := 8) (N := some 41) (v := ?_) (a' := ?_) #[true, true, true, true, true, true, true, true, true, false, false, false, false] rfl rfl (any_of HT_.out (by kernel_rfl)) (fun _ _ _ h => h) (Or.inl ⟨by rfl, ?_⟩) ?_ ?_
           rotate_left
           ·intro w'
            go_simp
            with_reducible rfl
           rotate_left
           ·simp only [Act.put, List.setIfInBounds_toArray, List.set_cons_zero, List.set_cons_succ, i64_w, i32_w]
            rfl
           refine pure_ (i := 9) (N := some 42) (v := ?_) (a' := ?_) #[true, true, true, true, true, true, true, true, true, true, false, false, false] rfl rfl (any_of HT_.out (by kernel_rfl)) (fun _ _ _ h => h) (Or.inl ⟨by rfl, ?_⟩) ?_ ?_
           rotate_left
           ·intro w'
            go_simp
            with_reducible rfl
           rotate_left
           ·simp only [Act.put, List.setIfInBounds_toArray, List.set_cons_zero, List.set_cons_succ, i64_w, i32_w]
            rfl
           refine one_ (i := 10) (N := some 11) #[true, true, true, true, true, true, true, true, true, true, true, false, false] rfl rfl (one_of HT_.out (by kernel_rfl)) (by decide) (fun K hK => ?_)
           refine box_step ?hg (N := 11) ?hd (cs := #[.int .i64 0, .int .i64 0, .int .i64 0, .bool false]) (t := 25) ?hr ?_; (case hd => rfl); (case hg => rfl); (case hr => first | (go_simp; done) | (go_simp; rfl))
           intro gb305 hg w25 hbox hb
           have n0_ := Aside0.mk (blk_below (g := gb296) (o := .cells #[.string a0_0, .int .i64 a0_1, .int .i64 a0_2, .int .i64 a0_3, .int .i64 a0_4, .int .i64 a0_5, .int .i64 a0_6, .int .i64 a0_7] 23 (0, 0)) (by (with_reducible repeat (first | refine blk_drewN ?_ _ | refine blk_drew ?_ | refine blk_alloc ?_ _)); exact BK296.out) hb)
           have n1_ := Aside0.mk (blk_below (g := gb297) (o := .cells #[.int .i64 x298000_2, .int .i64 x298001_2, .int .i64 x298002_2, .bool x298003_2] 25 (0, 0)) (by (with_reducible repeat (first | refine blk_drewN ?_ _ | refine blk_drew ?_ | refine blk_alloc ?_ _)); exact BK297.out) hb)
           have n2_ := Aside0.mk (below_step (by repeat (first | (with_reducible first | exact HB.out | apply below_alloc | apply pw_below_drewN | apply below_drew1 | refine below_set ?_ GE296.out | refine below_set ?_ GE297.out) | exact HB.out)) hb)
           have n3_ := Aside0.mk (hbox)
           have n4_ := Aside0.mk ((by rw [hg]; exact (below_size (by repeat (first | (with_reducible first | exact HB.out | apply below_alloc | apply pw_below_drewN | apply below_drew1 | refine below_set ?_ GE296.out | refine below_set ?_ GE297.out) | exact HB.out))) : w.heap.size ≤ gb305))
           have n5_ := Aside0.mk ((by rw [hg]; exact (below_size (by repeat (first | (with_reducible first | exact HB.out | apply below_alloc | apply pw_below_drewN | apply below_drew1 | refine below_set ?_ GE296.out | refine below_set ?_ GE297.out) | exact HB.out))) : w.heap.size ≤ gb305))
           have n6_ := Aside0.mk ((by rw [hg]; exact Nat.ne_of_lt (blk_lt (g := gb296) (o := .cells #[.string a0_0, .int .i64 a0_1, .int .i64 a0_2, .int .i64 a0_3, .int .i64 a0_4, .int .i64 a0_5, .int .i64 a0_6, .int .i64 a0_7] 23 (0, 0)) (by (with_reducible repeat (first | refine blk_drewN ?_ _ | refine blk_drew ?_ | refine blk_alloc ?_ _)); exact BK296.out)) : gb296 ≠ gb305))
           have n7_ := Aside0.mk ((by rw [hg]; exact Nat.ne_of_gt (blk_lt (g := gb296) (o := .cells #[.string a0_0, .int .i64 a0_1, .int .i64 a0_2, .int .i64 a0_3, .int .i64 a0_4, .int .i64 a0_5, .int .i64 a0_6, .int .i64 a0_7] 23 (0, 0)) (by (with_reducible repeat (first | refine blk_drewN ?_ _ | refine blk_drew ?_ | refine blk_alloc ?_ _)); exact BK296.out)) : gb305 ≠ gb296))
           have n8_ := Aside0.mk ((by rw [hg]; exact Nat.ne_of_lt (blk_lt (g := gb297) (o := .cells #[.int .i64 x298000_2, .int .i64 x298001_2, .int .i64 x298002_2, .bool x298003_2] 25 (0, 0)) (by (with_reducible repeat (first | refine blk_drewN ?_ _ | refine blk_drew ?_ | refine blk_alloc ?_ _)); exact BK297.out)) : gb297 ≠ gb305))
           have n9_ := Aside0.mk ((by rw [hg]; exact Nat.ne_of_gt (blk_lt (g := gb297) (o := .cells #[.int .i64 x298000_2, .int .i64 x298001_2, .int .i64 x298002_2, .bool x298003_2] 25 (0, 0)) (by (with_reducible repeat (first | refine blk_drewN ?_ _ | refine blk_drew ?_ | refine blk_alloc ?_ _)); exact BK297.out)) : gb305 ≠ gb297))
           clear BK296
           clear BK297
           clear HB
           have BK296 := n0_
           have BK297 := n1_
           have HB := n2_
           have BK305 := n3_
           have GW305 := n4_
           have GE305 := n5_
           have NB296_305 := n6_
           have NB305_296 := n7_
           have NB297_305 := n8_
           have NB305_297 := n9_
           clear n0_ n1_ n2_ n3_ n4_ n5_ n6_ n7_ n8_ n9_
           clear hb hbox hg
           refine hK.out _ _ ⟨(blk_cell BK296.out 0).trans rfl, (blk_cell BK296.out 1).trans rfl, (blk_cell BK296.out 2).trans rfl, (blk_cell BK296.out 3).trans rfl, (blk_cell BK296.out 4).trans rfl, (blk_cell BK296.out 5).trans rfl, (blk_cell BK296.out 6).trans rfl, (blk_cell BK296.out 7).trans rfl, (blk_cell BK297.out 0).trans rfl, (blk_cell BK297.out 1).trans rfl, (blk_cell BK297.out 2).trans rfl, (blk_cell BK297.out 3).trans rfl, ((HB.out.cell (World.block_lt_of_cell? w _ hw299_0)).trans hw299_0), ((HB.out.cell (World.block_lt_of_cell? w _ hw299_1)).trans hw299_1), ((HB.out.cell (World.block_lt_of_cell? w _ hw299_2)).trans hw299_2)⟩ (fun hHeld => ?_)
           clear hK K
           refine norm_ (a' := ?_) ?_ ?_
           rotate_left
           ·show Act.put _ (some 11) _ = _
            simp only [Act.put, List.setIfInBounds_toArray, List.set_cons_zero, List.set_cons_succ, i64_w, i32_w]
            rfl
           exact norm_ (by simp only [putAll, Act.put, List.setIfInBounds_toArray, List.set_cons_zero, List.set_cons_succ]) (hCont (gb305) _ ⟨hHeld, (by (with_reducible repeat (first | refine blk_drewN ?_ _ | refine blk_drew ?_ | refine blk_alloc ?_ _)); exact BK296.out), (by (with_reducible repeat (first | refine blk_drewN ?_ _ | refine blk_drew ?_ | refine blk_alloc ?_ _)); exact BK297.out), (by (with_reducible repeat (first | refine blk_drewN ?_ _ | refine blk_drew ?_ | refine blk_alloc ?_ _)); exact BK305.out), GW305.out, GE305.out, NB296_305.out, NB305_296.out, NB297_305.out, NB305_297.out, (by repeat (first | (with_reducible first | exact HB.out | apply below_alloc | apply pw_below_drewN | apply below_drew1 | refine below_set ?_ GE296.out | refine below_set ?_ GE297.out | refine below_set ?_ GE305.out) | exact HB.out))⟩)
          ·skip
           refine box_step ?hg (N := 11) ?hd (cs := #[.int .i64 0, .int .i64 0, .int .i64 0, .bool false]) (t := 25) ?hr ?_; (case hd => rfl); (case hg => rfl); (case hr => first | (go_simp; done) | (go_simp; rfl))
           intro gb305 hg w24 hbox hb
           have n0_ := Aside0.mk (blk_below (g := gb296) (o := .cells #[.string a0_0, .int .i64 a0_1, .int .i64 a0_2, .int .i64 a0_3, .int .i64 a0_4, .int .i64 a0_5, .int .i64 a0_6, .int .i64 a0_7] 23 (0, 0)) (by (with_reducible repeat (first | refine blk_drewN ?_ _ | refine blk_drew ?_ | refine blk_alloc ?_ _)); exact BK296.out) hb)
           have n1_ := Aside0.mk (blk_below (g := gb297) (o := .cells #[.int .i64 x298000_2, .int .i64 x298001_2, .int .i64 x298002_2, .bool x298003_2] 25 (0, 0)) (by (with_reducible repeat (first | refine blk_drewN ?_ _ | refine blk_drew ?_ | refine blk_alloc ?_ _)); exact BK297.out) hb)
           have n2_ := Aside0.mk (below_step (by repeat (first | (with_reducible first | exact HB.out | apply below_alloc | apply pw_below_drewN | apply below_drew1 | refine below_set ?_ GE296.out | refine below_set ?_ GE297.out) | exact HB.out)) hb)
           have n3_ := Aside0.mk (hbox)
           have n4_ := Aside0.mk ((by rw [hg]; exact (below_size (by repeat (first | (with_reducible first | exact HB.out | apply below_alloc | apply pw_below_drewN | apply below_drew1 | refine below_set ?_ GE296.out | refine below_set ?_ GE297.out) | exact HB.out))) : w.heap.size ≤ gb305))
           have n5_ := Aside0.mk ((by rw [hg]; exact (below_size (by repeat (first | (with_reducible first | exact HB.out | apply below_alloc | apply pw_below_drewN | apply below_drew1 | refine below_set ?_ GE296.out | refine below_set ?_ GE297.out) | exact HB.out))) : w.heap.size ≤ gb305))
           have n6_ := Aside0.mk ((by rw [hg]; exact Nat.ne_of_lt (blk_lt (g := gb296) (o := .cells #[.string a0_0, .int .i64 a0_1, .int .i64 a0_2, .int .i64 a0_3, .int .i64 a0_4, .int .i64 a0_5, .int .i64 a0_6, .int .i64 a0_7] 23 (0, 0)) (by (with_reducible repeat (first | refine blk_drewN ?_ _ | refine blk_drew ?_ | refine blk_alloc ?_ _)); exact BK296.out)) : gb296 ≠ gb305))
           have n7_ := Aside0.mk ((by rw [hg]; exact Nat.ne_of_gt (blk_lt (g := gb296) (o := .cells #[.string a0_0, .int .i64 a0_1, .int .i64 a0_2, .int .i64 a0_3, .int .i64 a0_4, .int .i64 a0_5, .int .i64 a0_6, .int .i64 a0_7] 23 (0, 0)) (by (with_reducible repeat (first | refine blk_drewN ?_ _ | refine blk_drew ?_ | refine blk_alloc ?_ _)); exact BK296.out)) : gb305 ≠ gb296))
           have n8_ := Aside0.mk ((by rw [hg]; exact Nat.ne_of_lt (blk_lt (g := gb297) (o := .cells #[.int .i64 x298000_2, .int .i64 x298001_2, .int .i64 x298002_2, .bool x298003_2] 25 (0, 0)) (by (with_reducible repeat (first | refine blk_drewN ?_ _ | refine blk_drew ?_ | refine blk_alloc ?_ _)); exact BK297.out)) : gb297 ≠ gb305))
           have n9_ := Aside0.mk ((by rw [hg]; exact Nat.ne_of_gt (blk_lt (g := gb297) (o := .cells #[.int .i64 x298000_2, .int .i64 x298001_2, .int .i64 x298002_2, .bool x298003_2] 25 (0, 0)) (by (with_reducible repeat (first | refine blk_drewN ?_ _ | refine blk_drew ?_ | refine blk_alloc ?_ _)); exact BK297.out)) : gb305 ≠ gb297))
           clear BK296
           clear BK297
           clear HB
           have BK296 := n0_
           have BK297 := n1_
           have HB := n2_
           have BK305 := n3_
           have GW305 := n4_
           have GE305 := n5_
           have NB296_305 := n6_
           have NB305_296 := n7_
           have NB297_305 := n8_
           have NB305_297 := n9_
           clear n0_ n1_ n2_ n3_ n4_ n5_ n6_ n7_ n8_ n9_
           clear hb hbox hg
           refine hK.out _ _ ⟨(blk_cell BK296.out 0).trans rfl, (blk_cell BK296.out 1).trans rfl, (blk_cell BK296.out 2).trans rfl, (blk_cell BK296.out 3).trans rfl, (blk_cell BK296.out 4).trans rfl, (blk_cell BK296.out 5).trans rfl, (blk_cell BK296.out 6).trans rfl, (blk_cell BK296.out 7).trans rfl, (blk_cell BK297.out 0).trans rfl, (blk_cell BK297.out 1).trans rfl, (blk_cell BK297.out 2).trans rfl, (blk_cell BK297.out 3).trans rfl, ((HB.out.cell (World.block_lt_of_cell? w _ hw299_0)).trans hw299_0), ((HB.out.cell (World.block_lt_of_cell? w _ hw299_1)).trans hw299_1), ((HB.out.cell (World.block_lt_of_cell? w _ hw299_2)).trans hw299_2)⟩ (fun hHeld => ?_)
           clear hK K
           refine norm_ (a' := ?_) ?_ ?_
           rotate_left
           ·show Act.put _ (some 11) _ = _
            simp only [Act.put, List.setIfInBounds_toArray, List.set_cons_zero, List.set_cons_succ, i64_w, i32_w]
            rfl
           refine one_ (i := 6) (N := some 40) #[true, true, true, true, true, true, true, false, false, false, true, false, false] rfl rfl (one_of HT_.out (by kernel_rfl)) (by decide) (fun K hK => ?_)
           refine goes_ Tryd.func11 (by kernel_rfl) rfl #[.agg #[.string a0_0, .int .i64 a0_1, .int .i64 a0_2, .int .i64 a0_3, .int .i64 a0_4, .int .i64 a0_5, .int .i64 a0_6, .int .i64 a0_7], .agg #[.int .i64 x298000_2, .int .i64 x298001_2, .int .i64 x298002_2, .bool x298003_2], .agg #[.int .i64 ((rd_T27 l2 x10_2).f0), .int .i64 ((rd_T27 l2 x10_2).f1), .int .i64 ((rd_T27 l2 x10_2).f2)]] (by rfl) rfl rfl (by (try simp only [List.map_toArray, List.map_cons, List.map_nil]); first | done | rfl | (simp only [List.length_drop, List.length_take]; rfl)) ?_
           with_reducible refine (charger_Step.calls a0_0 a0_1 a0_2 a0_3 a0_4 a0_5 a0_6 a0_7 x298000_2 x298001_2 x298002_2 x298003_2 ((rd_T27 l2 x10_2).f0) ((rd_T27 l2 x10_2).f1) ((rd_T27 l2 x10_2).f2) t300 t301 t302 t303 t304 _ (hG.below (by repeat (first | (with_reducible first | exact HB.out | apply below_alloc | apply pw_below_drewN | apply below_drew1) | exact HB.out | (refine Below.setCell ?_ (Aside0.out (by assumption)) _)))) A20.out).mono ?_
           rintro e w25 ⟨rfl, hb⟩
           refine ⟨_, rfl, ?_⟩
           have n0_ := Aside0.mk (blk_below (g := gb296) (o := .cells #[.string a0_0, .int .i64 a0_1, .int .i64 a0_2, .int .i64 a0_3, .int .i64 a0_4, .int .i64 a0_5, .int .i64 a0_6, .int .i64 a0_7] 23 (0, 0)) (by (with_reducible repeat (first | refine blk_drewN ?_ _ | refine blk_drew ?_ | refine blk_alloc ?_ _)); exact BK296.out) hb)
           have n1_ := Aside0.mk (blk_below (g := gb297) (o := .cells #[.int .i64 x298000_2, .int .i64 x298001_2, .int .i64 x298002_2, .bool x298003_2] 25 (0, 0)) (by (with_reducible repeat (first | refine blk_drewN ?_ _ | refine blk_drew ?_ | refine blk_alloc ?_ _)); exact BK297.out) hb)
           have n2_ := Aside0.mk (blk_below (g := gb305) (o := .cells #[.int .i64 0, .int .i64 0, .int .i64 0, .bool false] 25 (0, 0)) (by (with_reducible repeat (first | refine blk_drewN ?_ _ | refine blk_drew ?_ | refine blk_alloc ?_ _)); exact BK305.out) hb)
           have n3_ := Aside0.mk (below_step (by repeat (first | (with_reducible first | exact HB.out | apply below_alloc | apply pw_below_drewN | apply below_drew1 | refine below_set ?_ GE296.out | refine below_set ?_ GE297.out | refine below_set ?_ GE305.out) | exact HB.out)) hb)
           clear BK296
           clear BK297
           clear BK305
           clear HB
           have BK296 := n0_
           have BK297 := n1_
           have BK305 := n2_
           have HB := n3_
           clear n0_ n1_ n2_ n3_
           (try clear hb)
           (try clear hb2)
           (try clear hk)
           (try clear hi)
           refine hK.out _ _ ⟨(blk_cell BK296.out 0).trans rfl, (blk_cell BK296.out 1).trans rfl, (blk_cell BK296.out 2).trans rfl, (blk_cell BK296.out 3).trans rfl, (blk_cell BK296.out 4).trans rfl, (blk_cell BK296.out 5).trans rfl, (blk_cell BK296.out 6).trans rfl, (blk_cell BK296.out 7).trans rfl, (blk_cell BK297.out 0).trans rfl, (blk_cell BK297.out 1).trans rfl, (blk_cell BK297.out 2).trans rfl, (blk_cell BK297.out 3).trans rfl, ((HB.out.cell (World.block_lt_of_cell? w _ hw299_0)).trans hw299_0), ((HB.out.cell (World.block_lt_of_cell? w _ hw299_1)).trans hw299_1), ((HB.out.cell (World.block_lt_of_cell? w _ hw299_2)).trans hw299_2)⟩ (fun hHeld => ?_)
           clear hK K
           refine norm_ (a' := ?_) ?_ ?_
           rotate_left
           ·show Act.put _ (some 40) _ = _
            simp only [Act.put, List.setIfInBounds_toArray, List.set_cons_zero, List.set_cons_succ, i64_w, i32_w]
            rfl
           refine pure_ (i := 7) (N := some 33) (v := ?_) (a' := ?_) #[true, true, true, true, true, true, true, true, false, false, true, false, false] rfl rfl (any_of HT_.out (by kernel_rfl)) (fun _ _ _ h => h) (Or.inl ⟨by rfl, ?_⟩) ?_ ?_
           rotate_left
           ·intro w'
            go_simp
            with_reducible rfl
           rotate_left
           ·simp only [Act.put, List.setIfInBounds_toArray, List.set_cons_zero, List.set_cons_succ, i64_w, i32_w]
            rfl
           refine pure_ (i := 8) (N := some 41) (v := ?_) (a' := ?_) #[true, true, true, true, true, true, true, true, true, false, true, false, false] rfl rfl (any_of HT_.out (by kernel_rfl)) (fun _ _ _ h => h) (Or.inl ⟨by rfl, ?_⟩) ?_ ?_
           rotate_left
           ·intro w'
            go_simp
            with_reducible rfl
           rotate_left
           ·simp only [Act.put, List.setIfInBounds_toArray, List.set_cons_zero, List.set_cons_succ, i64_w, i32_w]
            rfl
           refine pure_ (i := 9) (N := some 42) (v := ?_) (a' := ?_) #[true, true, true, true, true, true, true, true, true, true, true, false, false] rfl rfl (any_of HT_.out (by kernel_rfl)) (fun _ _ _ h => h) (Or.inl ⟨by rfl, ?_⟩) ?_ ?_
           rotate_left
           ·intro w'
            go_simp
            with_reducible rfl
           rotate_left
           ·simp only [Act.put, List.setIfInBounds_toArray, List.set_cons_zero, List.set_cons_succ, i64_w, i32_w]
            rfl
           exact norm_ (by simp only [putAll, Act.put, List.setIfInBounds_toArray, List.set_cons_zero, List.set_cons_succ]) (hCont (gb305) _ ⟨hHeld, (by (with_reducible repeat (first | refine blk_drewN ?_ _ | refine blk_drew ?_ | refine blk_alloc ?_ _)); exact BK296.out), (by (with_reducible repeat (first | refine blk_drewN ?_ _ | refine blk_drew ?_ | refine blk_alloc ?_ _)); exact BK297.out), (by (with_reducible repeat (first | refine blk_drewN ?_ _ | refine blk_drew ?_ | refine blk_alloc ?_ _)); exact BK305.out), GW305.out, GE305.out, NB296_305.out, NB305_296.out, NB297_305.out, NB305_297.out, (by repeat (first | (with_reducible first | exact HB.out | apply below_alloc | apply pw_below_drewN | apply below_drew1 | refine below_set ?_ GE296.out | refine below_set ?_ GE297.out | refine below_set ?_ GE305.out) | exact HB.out))⟩)
         rintro gb305 w26 ⟨hS_, h0_, h1_, h2_, h3_, h4_, h5_, h6_, h7_, h8_, h9_⟩
         have n0_ : Aside0 (w26.heap[gb296]? = some (.cells #[.string a0_0, .int .i64 a0_1, .int .i64 a0_2, .int .i64 a0_3, .int .i64 a0_4, .int .i64 a0_5, .int .i64 a0_6, .int .i64 a0_7] 23 (0, 0))) := ⟨h0_⟩
         have n1_ : Aside0 (w26.heap[gb297]? = some (.cells #[.int .i64 x298000_2, .int .i64 x298001_2, .int .i64 x298002_2, .bool x298003_2] 25 (0, 0))) := ⟨h1_⟩
         have n2_ : Aside0 (w26.heap[gb305]? = some (.cells #[.int .i64 0, .int .i64 0, .int .i64 0, .bool false] 25 (0, 0))) := ⟨h2_⟩
         have n3_ : Aside0 (w.heap.size ≤ gb305) := ⟨h3_⟩
         have n4_ : Aside0 (w.heap.size ≤ gb305) := ⟨h4_⟩
         have n5_ : Aside0 (gb296 ≠ gb305) := ⟨h5_⟩
         have n6_ : Aside0 (gb305 ≠ gb296) := ⟨h6_⟩
         have n7_ : Aside0 (gb297 ≠ gb305) := ⟨h7_⟩
         have n8_ : Aside0 (gb305 ≠ gb297) := ⟨h8_⟩
         have n9_ : Aside0 (Below w.heap.size w w26) := ⟨h9_⟩
         clear BK296
         clear BK297
         clear HB
         clear h0_ h1_ h2_ h3_ h4_ h5_ h6_ h7_ h8_ h9_
         have BK296 := n0_
         have BK297 := n1_
         have BK305 := n2_
         have GW305 := n3_
         have GE305 := n4_
         have NB296_305 := n5_
         have NB305_296 := n6_
         have NB297_305 := n7_
         have NB305_297 := n8_
         have HB := n9_
         clear n0_ n1_ n2_ n3_ n4_ n5_ n6_ n7_ n8_ n9_
         have hHeld : w26.cell? ⟨gb296, 0, none⟩ = some (.string a0_0) ∧ w26.cell? ⟨gb296, 1, none⟩ = some (.int .i64 a0_1) ∧ w26.cell? ⟨gb296, 2, none⟩ = some (.int .i64 a0_2) ∧ w26.cell? ⟨gb296, 3, none⟩ = some (.int .i64 a0_3) ∧ w26.cell? ⟨gb296, 4, none⟩ = some (.int .i64 a0_4) ∧ w26.cell? ⟨gb296, 5, none⟩ = some (.int .i64 a0_5) ∧ w26.cell? ⟨gb296, 6, none⟩ = some (.int .i64 a0_6) ∧ w26.cell? ⟨gb296, 7, none⟩ = some (.int .i64 a0_7) ∧ w26.cell? ⟨gb297, 0, none⟩ = some (.int .i64 x298000_2) ∧ w26.cell? ⟨gb297, 1, none⟩ = some (.int .i64 x298001_2) ∧ w26.cell? ⟨gb297, 2, none⟩ = some (.int .i64 x298002_2) ∧ w26.cell? ⟨gb297, 3, none⟩ = some (.bool x298003_2) ∧ w26.cell? (ad299.add ((x10_2).toNat * 3)) = some (.int .i64 ((rd_T27 l2 x10_2).f0)) ∧ w26.cell? ⟨(ad299.add ((x10_2).toNat * 3)).block, (ad299.add ((x10_2).toNat * 3)).off + 1, none⟩ = some (.int .i64 ((rd_T27 l2 x10_2).f1)) ∧ w26.cell? ⟨(ad299.add ((x10_2).toNat * 3)).block, (ad299.add ((x10_2).toNat * 3)).off + 2, none⟩ = some (.int .i64 ((rd_T27 l2 x10_2).f2)) := hS_
         refine norm_ (a' := ?_) ?_ ?_
         rotate_left
         ·simp only [putAll, Act.put, List.setIfInBounds_toArray, List.set_cons_zero, List.set_cons_succ]
          rfl
         refine one_ (i := 11) (N := none) #[true, true, true, true, true, true, true, true, true, true, true, true, false] rfl rfl (one_of HT_.out (by kernel_rfl)) (by decide) (fun K hK => ?_)
         have hs27 : w26.cell? ⟨gb305, 0, none⟩ = some (.int .i64 0) := (blk_cell BK305.out 0).trans rfl
         have hfs27 := blk_frozen BK305.out 0
         have hns27_0 := NB296_305.out
         have hns27_1 := NB297_305.out
         have hms27_0 := NB305_296.out
         have hms27_1 := NB305_297.out
         have hs28 : w26.cell? ⟨gb305, 1, none⟩ = some (.int .i64 0) := (blk_cell BK305.out 1).trans rfl
         have hfs28 := blk_frozen BK305.out 1
         have hns28_0 := NB296_305.out
         have hns28_1 := NB297_305.out
         have hms28_0 := NB305_296.out
         have hms28_1 := NB305_297.out
         have hs29 : w26.cell? ⟨gb305, 2, none⟩ = some (.int .i64 0) := (blk_cell BK305.out 2).trans rfl
         have hfs29 := blk_frozen BK305.out 2
         have hns29_0 := NB296_305.out
         have hns29_1 := NB297_305.out
         have hms29_0 := NB305_296.out
         have hms29_1 := NB305_297.out
         have hs30 : w26.cell? ⟨gb305, 3, none⟩ = some (.bool false) := (blk_cell BK305.out 3).trans rfl
         have hfs30 := blk_frozen BK305.out 3
         have hns30_0 := NB296_305.out
         have hns30_1 := NB297_305.out
         have hms30_0 := NB305_296.out
         have hms30_1 := NB305_297.out
         refine skip_ (w1 := ?_) (by rfl) rfl ?_ ?_
         rotate_left
         ·go_simp
          rfl
         refine hK.out _ _ ⟨((cell_far (p := ⟨gb305, _, none⟩) NB296_305.out _).trans (((cell_far (p := ⟨gb305, _, none⟩) NB296_305.out _).trans (((cell_far (p := ⟨gb305, _, none⟩) NB296_305.out _).trans (((cell_far (p := ⟨gb305, _, none⟩) NB296_305.out _).trans (hHeld.1)))))))), ((cell_far (p := ⟨gb305, _, none⟩) NB296_305.out _).trans (((cell_far (p := ⟨gb305, _, none⟩) NB296_305.out _).trans (((cell_far (p := ⟨gb305, _, none⟩) NB296_305.out _).trans (((cell_far (p := ⟨gb305, _, none⟩) NB296_305.out _).trans (hHeld.2.1)))))))), ((cell_far (p := ⟨gb305, _, none⟩) NB296_305.out _).trans (((cell_far (p := ⟨gb305, _, none⟩) NB296_305.out _).trans (((cell_far (p := ⟨gb305, _, none⟩) NB296_305.out _).trans (((cell_far (p := ⟨gb305, _, none⟩) NB296_305.out _).trans (hHeld.2.2.1)))))))), ((cell_far (p := ⟨gb305, _, none⟩) NB296_305.out _).trans (((cell_far (p := ⟨gb305, _, none⟩) NB296_305.out _).trans (((cell_far (p := ⟨gb305, _, none⟩) NB296_305.out _).trans (((cell_far (p := ⟨gb305, _, none⟩) NB296_305.out _).trans (hHeld.2.2.2.1)))))))), ((cell_far (p := ⟨gb305, _, none⟩) NB296_305.out _).trans (((cell_far (p := ⟨gb305, _, none⟩) NB296_305.out _).trans (((cell_far (p := ⟨gb305, _, none⟩) NB296_305.out _).trans (((cell_far (p := ⟨gb305, _, none⟩) NB296_305.out _).trans (hHeld.2.2.2.2.1)))))))), ((cell_far (p := ⟨gb305, _, none⟩) NB296_305.out _).trans (((cell_far (p := ⟨gb305, _, none⟩) NB296_305.out _).trans (((cell_far (p := ⟨gb305, _, none⟩) NB296_305.out _).trans (((cell_far (p := ⟨gb305, _, none⟩) NB296_305.out _).trans (hHeld.2.2.2.2.2.1)))))))), ((cell_far (p := ⟨gb305, _, none⟩) NB296_305.out _).trans (((cell_far (p := ⟨gb305, _, none⟩) NB296_305.out _).trans (((cell_far (p := ⟨gb305, _, none⟩) NB296_305.out _).trans (((cell_far (p := ⟨gb305, _, none⟩) NB296_305.out _).trans (hHeld.2.2.2.2.2.2.1)))))))), ((cell_far (p := ⟨gb305, _, none⟩) NB296_305.out _).trans (((cell_far (p := ⟨gb305, _, none⟩) NB296_305.out _).trans (((cell_far (p := ⟨gb305, _, none⟩) NB296_305.out _).trans (((cell_far (p := ⟨gb305, _, none⟩) NB296_305.out _).trans (hHeld.2.2.2.2.2.2.2.1)))))))), ((cell_far (p := ⟨gb305, _, none⟩) NB297_305.out _).trans (((cell_far (p := ⟨gb305, _, none⟩) NB297_305.out _).trans (((cell_far (p := ⟨gb305, _, none⟩) NB297_305.out _).trans (((cell_far (p := ⟨gb305, _, none⟩) NB297_305.out _).trans (hHeld.2.2.2.2.2.2.2.2.1)))))))), ((cell_far (p := ⟨gb305, _, none⟩) NB297_305.out _).trans (((cell_far (p := ⟨gb305, _, none⟩) NB297_305.out _).trans (((cell_far (p := ⟨gb305, _, none⟩) NB297_305.out _).trans (((cell_far (p := ⟨gb305, _, none⟩) NB297_305.out _).trans (hHeld.2.2.2.2.2.2.2.2.2.1)))))))), ((cell_far (p := ⟨gb305, _, none⟩) NB297_305.out _).trans (((cell_far (p := ⟨gb305, _, none⟩) NB297_305.out _).trans (((cell_far (p := ⟨gb305, _, none⟩) NB297_305.out _).trans (((cell_far (p := ⟨gb305, _, none⟩) NB297_305.out _).trans (hHeld.2.2.2.2.2.2.2.2.2.2.1)))))))), ((cell_far (p := ⟨gb305, _, none⟩) NB297_305.out _).trans (((cell_far (p := ⟨gb305, _, none⟩) NB297_305.out _).trans (((cell_far (p := ⟨gb305, _, none⟩) NB297_305.out _).trans (((cell_far (p := ⟨gb305, _, none⟩) NB297_305.out _).trans (hHeld.2.2.2.2.2.2.2.2.2.2.2.1)))))))), ((cell_far (p := ⟨gb305, _, none⟩) (by first | exact Nat.ne_of_lt (Nat.lt_of_lt_of_le (by have := World.block_lt_of_cell? _ _ hw299_0; first | rwa [add_block] at this | exact this) GW305.out) | (rw [add_block]; exact Nat.ne_of_lt (Nat.lt_of_lt_of_le (by have := World.block_lt_of_cell? _ _ hw299_0; first | rwa [add_block] at this | exact this) GW305.out)) | (show (Addr.add _ _).block ≠ _; rw [add_block]; exact Nat.ne_of_lt (Nat.lt_of_lt_of_le (by have := World.block_lt_of_cell? _ _ hw299_0; first | rwa [add_block] at this | exact this) GW305.out)) | (dsimp only; exact Nat.ne_of_lt (Nat.lt_of_lt_of_le (by have := World.block_lt_of_cell? _ _ hw299_0; first | rwa [add_block] at this | exact this) GW305.out))) _).trans (((cell_far (p := ⟨gb305, _, none⟩) (by first | exact Nat.ne_of_lt (Nat.lt_of_lt_of_le (by have := World.block_lt_of_cell? _ _ hw299_0; first | rwa [add_block] at this | exact this) GW305.out) | (rw [add_block]; exact Nat.ne_of_lt (Nat.lt_of_lt_of_le (by have := World.block_lt_of_cell? _ _ hw299_0; first | rwa [add_block] at this | exact this) GW305.out)) | (show (Addr.add _ _).block ≠ _; rw [add_block]; exact Nat.ne_of_lt (Nat.lt_of_lt_of_le (by have := World.block_lt_of_cell? _ _ hw299_0; first | rwa [add_block] at this | exact this) GW305.out)) | (dsimp only; exact Nat.ne_of_lt (Nat.lt_of_lt_of_le (by have := World.block_lt_of_cell? _ _ hw299_0; first | rwa [add_block] at this | exact this) GW305.out))) _).trans (((cell_far (p := ⟨gb305, _, none⟩) (by first | exact Nat.ne_of_lt (Nat.lt_of_lt_of_le (by have := World.block_lt_of_cell? _ _ hw299_0; first | rwa [add_block] at this | exact this) GW305.out) | (rw [add_block]; exact Nat.ne_of_lt (Nat.lt_of_lt_of_le (by have := World.block_lt_of_cell? _ _ hw299_0; first | rwa [add_block] at this | exact this) GW305.out)) | (show (Addr.add _ _).block ≠ _; rw [add_block]; exact Nat.ne_of_lt (Nat.lt_of_lt_of_le (by have := World.block_lt_of_cell? _ _ hw299_0; first | rwa [add_block] at this | exact this) GW305.out)) | (dsimp only; exact Nat.ne_of_lt (Nat.lt_of_lt_of_le (by have := World.block_lt_of_cell? _ _ hw299_0; first | rwa [add_block] at this | exact this) GW305.out))) _).trans (((cell_far (p := ⟨gb305, _, none⟩) (by first | exact Nat.ne_of_lt (Nat.lt_of_lt_of_le (by have := World.block_lt_of_cell? _ _ hw299_0; first | rwa [add_block] at this | exact this) GW305.out) | (rw [add_block]; exact Nat.ne_of_lt (Nat.lt_of_lt_of_le (by have := World.block_lt_of_cell? _ _ hw299_0; first | rwa [add_block] at this | exact this) GW305.out)) | (show (Addr.add _ _).block ≠ _; rw [add_block]; exact Nat.ne_of_lt (Nat.lt_of_lt_of_le (by have := World.block_lt_of_cell? _ _ hw299_0; first | rwa [add_block] at this | exact this) GW305.out)) | (dsimp only; exact Nat.ne_of_lt (Nat.lt_of_lt_of_le (by have := World.block_lt_of_cell? _ _ hw299_0; first | rwa [add_block] at this | exact this) GW305.out))) _).trans (hHeld.2.2.2.2.2.2.2.2.2.2.2.2.1)))))))), ((cell_far (p := ⟨gb305, _, none⟩) (by first | exact Nat.ne_of_lt (Nat.lt_of_lt_of_le (by have := World.block_lt_of_cell? _ _ hw299_1; first | rwa [add_block] at this | exact this) GW305.out) | (rw [add_block]; exact Nat.ne_of_lt (Nat.lt_of_lt_of_le (by have := World.block_lt_of_cell? _ _ hw299_1; first | rwa [add_block] at this | exact this) GW305.out)) | (show (Addr.add _ _).block ≠ _; rw [add_block]; exact Nat.ne_of_lt (Nat.lt_of_lt_of_le (by have := World.block_lt_of_cell? _ _ hw299_1; first | rwa [add_block] at this | exact this) GW305.out)) | (dsimp only; exact Nat.ne_of_lt (Nat.lt_of_lt_of_le (by have := World.block_lt_of_cell? _ _ hw299_1; first | rwa [add_block] at this | exact this) GW305.out))) _).trans (((cell_far (p := ⟨gb305, _, none⟩) (by first | exact Nat.ne_of_lt (Nat.lt_of_lt_of_le (by have := World.block_lt_of_cell? _ _ hw299_1; first | rwa [add_block] at this | exact this) GW305.out) | (rw [add_block]; exact Nat.ne_of_lt (Nat.lt_of_lt_of_le (by have := World.block_lt_of_cell? _ _ hw299_1; first | rwa [add_block] at this | exact this) GW305.out)) | (show (Addr.add _ _).block ≠ _; rw [add_block]; exact Nat.ne_of_lt (Nat.lt_of_lt_of_le (by have := World.block_lt_of_cell? _ _ hw299_1; first | rwa [add_block] at this | exact this) GW305.out)) | (dsimp only; exact Nat.ne_of_lt (Nat.lt_of_lt_of_le (by have := World.block_lt_of_cell? _ _ hw299_1; first | rwa [add_block] at this | exact this) GW305.out))) _).trans (((cell_far (p := ⟨gb305, _, none⟩) (by first | exact Nat.ne_of_lt (Nat.lt_of_lt_of_le (by have := World.block_lt_of_cell? _ _ hw299_1; first | rwa [add_block] at this | exact this) GW305.out) | (rw [add_block]; exact Nat.ne_of_lt (Nat.lt_of_lt_of_le (by have := World.block_lt_of_cell? _ _ hw299_1; first | rwa [add_block] at this | exact this) GW305.out)) | (show (Addr.add _ _).block ≠ _; rw [add_block]; exact Nat.ne_of_lt (Nat.lt_of_lt_of_le (by have := World.block_lt_of_cell? _ _ hw299_1; first | rwa [add_block] at this | exact this) GW305.out)) | (dsimp only; exact Nat.ne_of_lt (Nat.lt_of_lt_of_le (by have := World.block_lt_of_cell? _ _ hw299_1; first | rwa [add_block] at this | exact this) GW305.out))) _).trans (((cell_far (p := ⟨gb305, _, none⟩) (by first | exact Nat.ne_of_lt (Nat.lt_of_lt_of_le (by have := World.block_lt_of_cell? _ _ hw299_1; first | rwa [add_block] at this | exact this) GW305.out) | (rw [add_block]; exact Nat.ne_of_lt (Nat.lt_of_lt_of_le (by have := World.block_lt_of_cell? _ _ hw299_1; first | rwa [add_block] at this | exact this) GW305.out)) | (show (Addr.add _ _).block ≠ _; rw [add_block]; exact Nat.ne_of_lt (Nat.lt_of_lt_of_le (by have := World.block_lt_of_cell? _ _ hw299_1; first | rwa [add_block] at this | exact this) GW305.out)) | (dsimp only; exact Nat.ne_of_lt (Nat.lt_of_lt_of_le (by have := World.block_lt_of_cell? _ _ hw299_1; first | rwa [add_block] at this | exact this) GW305.out))) _).trans (hHeld.2.2.2.2.2.2.2.2.2.2.2.2.2.1)))))))), ((cell_far (p := ⟨gb305, _, none⟩) (by first | exact Nat.ne_of_lt (Nat.lt_of_lt_of_le (by have := World.block_lt_of_cell? _ _ hw299_2; first | rwa [add_block] at this | exact this) GW305.out) | (rw [add_block]; exact Nat.ne_of_lt (Nat.lt_of_lt_of_le (by have := World.block_lt_of_cell? _ _ hw299_2; first | rwa [add_block] at this | exact this) GW305.out)) | (show (Addr.add _ _).block ≠ _; rw [add_block]; exact Nat.ne_of_lt (Nat.lt_of_lt_of_le (by have := World.block_lt_of_cell? _ _ hw299_2; first | rwa [add_block] at this | exact this) GW305.out)) | (dsimp only; exact Nat.ne_of_lt (Nat.lt_of_lt_of_le (by have := World.block_lt_of_cell? _ _ hw299_2; first | rwa [add_block] at this | exact this) GW305.out))) _).trans (((cell_far (p := ⟨gb305, _, none⟩) (by first | exact Nat.ne_of_lt (Nat.lt_of_lt_of_le (by have := World.block_lt_of_cell? _ _ hw299_2; first | rwa [add_block] at this | exact this) GW305.out) | (rw [add_block]; exact Nat.ne_of_lt (Nat.lt_of_lt_of_le (by have := World.block_lt_of_cell? _ _ hw299_2; first | rwa [add_block] at this | exact this) GW305.out)) | (show (Addr.add _ _).block ≠ _; rw [add_block]; exact Nat.ne_of_lt (Nat.lt_of_lt_of_le (by have := World.block_lt_of_cell? _ _ hw299_2; first | rwa [add_block] at this | exact this) GW305.out)) | (dsimp only; exact Nat.ne_of_lt (Nat.lt_of_lt_of_le (by have := World.block_lt_of_cell? _ _ hw299_2; first | rwa [add_block] at this | exact this) GW305.out))) _).trans (((cell_far (p := ⟨gb305, _, none⟩) (by first | exact Nat.ne_of_lt (Nat.lt_of_lt_of_le (by have := World.block_lt_of_cell? _ _ hw299_2; first | rwa [add_block] at this | exact this) GW305.out) | (rw [add_block]; exact Nat.ne_of_lt (Nat.lt_of_lt_of_le (by have := World.block_lt_of_cell? _ _ hw299_2; first | rwa [add_block] at this | exact this) GW305.out)) | (show (Addr.add _ _).block ≠ _; rw [add_block]; exact Nat.ne_of_lt (Nat.lt_of_lt_of_le (by have := World.block_lt_of_cell? _ _ hw299_2; first | rwa [add_block] at this | exact this) GW305.out)) | (dsimp only; exact Nat.ne_of_lt (Nat.lt_of_lt_of_le (by have := World.block_lt_of_cell? _ _ hw299_2; first | rwa [add_block] at this | exact this) GW305.out))) _).trans (((cell_far (p := ⟨gb305, _, none⟩) (by first | exact Nat.ne_of_lt (Nat.lt_of_lt_of_le (by have := World.block_lt_of_cell? _ _ hw299_2; first | rwa [add_block] at this | exact this) GW305.out) | (rw [add_block]; exact Nat.ne_of_lt (Nat.lt_of_lt_of_le (by have := World.block_lt_of_cell? _ _ hw299_2; first | rwa [add_block] at this | exact this) GW305.out)) | (show (Addr.add _ _).block ≠ _; rw [add_block]; exact Nat.ne_of_lt (Nat.lt_of_lt_of_le (by have := World.block_lt_of_cell? _ _ hw299_2; first | rwa [add_block] at this | exact this) GW305.out)) | (dsimp only; exact Nat.ne_of_lt (Nat.lt_of_lt_of_le (by have := World.block_lt_of_cell? _ _ hw299_2; first | rwa [add_block] at this | exact this) GW305.out))) _).trans (hHeld.2.2.2.2.2.2.2.2.2.2.2.2.2.2))))))))⟩ (fun hHeld => ?_)
         clear hK K
         refine pure_ (i := 12) (N := some 12) (v := ?_) (a' := ?_) #[true, true, true, true, true, true, true, true, true, true, true, true, true] rfl rfl (any_of HT_.out (by kernel_rfl)) (fun _ _ _ h => h) (Or.inl ⟨by rfl, ?_⟩) ?_ ?_
         rotate_left
         ·intro w'
          go_simp
          with_reducible rfl
         rotate_left
         ·simp only [Act.put, List.setIfInBounds_toArray, List.set_cons_zero, List.set_cons_succ, i64_w, i32_w]
          rfl
         refine done_ (done_of HT_.out (by kernel_rfl)) ?_
         go_upto_region 11 with (fail)
         go_cut [9] (fun v9 wc => ∃ (kq : Nat) (x9_21 : Bool), v9 = .bool x9_21 ∧ Aside0 (chargeparklaw12_ChargerWelded.j2 kq l2 x7_2 x9_21 x10_2 a0_0 a0_1 a0_2 a0_3 a0_4 a0_5 a0_6 a0_7 t300 t301 t302 t303 = some r) ∧ Aside0 (kq ≤ k2) ∧ Aside0 (wc.heap[gb296]? = some (.cells #[.string a0_0, .int .i64 a0_1, .int .i64 a0_2, .int .i64 a0_3, .int .i64 a0_4, .int .i64 a0_5, .int .i64 a0_6, .int .i64 a0_7] 23 (0, 0))) ∧ Aside0 (wc.heap[gb297]? = some (.cells #[.int .i64 x298000_2, .int .i64 x298001_2, .int .i64 x298002_2, .bool x298003_2] 25 (0, 0))) ∧ Aside0 (wc.heap[gb305]? = some (.cells #[.int .i64 t300, .int .i64 t301, .int .i64 t302, .bool t303] 25 (0, 0))) ∧ Aside0 (Below w.heap.size w wc))
         case first =>
          have H := HC22.out
          clear HC22
          by_cases c31 : x9_2 = true
          ·subst c31
           have H1 : (chargeparklaw12_ChargerWelded.j2 k2 l2 x7_2 true x10_2 a0_0 a0_1 a0_2 a0_3 a0_4 a0_5 a0_6 a0_7 t300 t301 t302 t303) = some r := by rw [if_pos rfl] at H; exact H
           clear H
           have H := H1
           clear H1
           have H' := Aside0.mk H
           clear H
           go_wp2
           go_meet
           case rel => exact ⟨_, (true), (by first | rfl | (simp; done) | (simp [*]; done)), H', ⟨by have := HJ5.out; have := HK2.out; first | omega | exact Nat.le_refl _⟩, ⟨by (with_reducible repeat (first | refine blk_drewN ?_ _ | refine blk_drew ?_ | refine blk_alloc ?_ _)); refine blk_far ?_ NB296_305.out _; (with_reducible repeat (first | refine blk_drewN ?_ _ | refine blk_drew ?_ | refine blk_alloc ?_ _)); refine blk_far ?_ NB296_305.out _; (with_reducible repeat (first | refine blk_drewN ?_ _ | refine blk_drew ?_ | refine blk_alloc ?_ _)); refine blk_far ?_ NB296_305.out _; (with_reducible repeat (first | refine blk_drewN ?_ _ | refine blk_drew ?_ | refine blk_alloc ?_ _)); refine blk_far ?_ NB296_305.out _; (with_reducible repeat (first | refine blk_drewN ?_ _ | refine blk_drew ?_ | refine blk_alloc ?_ _)); exact BK296.out⟩, ⟨by (with_reducible repeat (first | refine blk_drewN ?_ _ | refine blk_drew ?_ | refine blk_alloc ?_ _)); refine blk_far ?_ NB297_305.out _; (with_reducible repeat (first | refine blk_drewN ?_ _ | refine blk_drew ?_ | refine blk_alloc ?_ _)); refine blk_far ?_ NB297_305.out _; (with_reducible repeat (first | refine blk_drewN ?_ _ | refine blk_drew ?_ | refine blk_alloc ?_ _)); refine blk_far ?_ NB297_305.out _; (with_reducible repeat (first | refine blk_drewN ?_ _ | refine blk_drew ?_ | refine blk_alloc ?_ _)); refine blk_far ?_ NB297_305.out _; (with_reducible repeat (first | refine blk_drewN ?_ _ | refine blk_drew ?_ | refine blk_alloc ?_ _)); exact BK297.out⟩, ⟨by (with_reducible repeat (first | refine blk_drewN ?_ _ | refine blk_drew ?_ | refine blk_alloc ?_ _)); refine blk_put (cs := #[.int .i64 t300, .int .i64 t301, .int .i64 t302, .bool false]) ?_ 3 _ rfl; (with_reducible repeat (first | refine blk_drewN ?_ _ | refine blk_drew ?_ | refine blk_alloc ?_ _)); refine blk_put (cs := #[.int .i64 t300, .int .i64 t301, .int .i64 0, .bool false]) ?_ 2 _ rfl; (with_reducible repeat (first | refine blk_drewN ?_ _ | refine blk_drew ?_ | refine blk_alloc ?_ _)); refine blk_put (cs := #[.int .i64 t300, .int .i64 0, .int .i64 0, .bool false]) ?_ 1 _ rfl; (with_reducible repeat (first | refine blk_drewN ?_ _ | refine blk_drew ?_ | refine blk_alloc ?_ _)); refine blk_put (cs := #[.int .i64 0, .int .i64 0, .int .i64 0, .bool false]) ?_ 0 _ rfl; (with_reducible repeat (first | refine blk_drewN ?_ _ | refine blk_drew ?_ | refine blk_alloc ?_ _)); exact BK305.out⟩, ⟨by repeat (first | (with_reducible first | exact HB.out | apply below_alloc | apply pw_below_drewN | apply below_drew1 | refine below_set ?_ GE296.out | refine below_set ?_ GE297.out | refine below_set ?_ GE305.out) | exact HB.out)⟩⟩
          ·replace c31 := Bool.eq_false_iff.mpr c31
           subst c31
           have H1 : (if ((rd_T27 l2 x10_2).f0) = 6 then (chargeparklaw12_ChargerWelded.j2 k2 l2 x7_2 (((rd_T27 l2 x10_2).f1) == 1) x10_2 a0_0 a0_1 a0_2 a0_3 a0_4 a0_5 a0_6 a0_7 t300 t301 t302 t303) else (chargeparklaw12_ChargerWelded.j2 k2 l2 x7_2 false x10_2 a0_0 a0_1 a0_2 a0_3 a0_4 a0_5 a0_6 a0_7 t300 t301 t302 t303)) = some r := by rw [if_neg (show ¬ (false = true) by decide)] at H; exact H
           clear H
           have H := H1
           clear H1
           by_cases c32 : ((rd_T27 l2 x10_2).f0) = 6
           ·rw [if_pos c32] at H
            have c32b0 : (((rd_T27 l2 x10_2).f0) == 6) = true := beq_iff_eq.mpr c32
            have c32b1 : (((rd_T27 l2 x10_2).f0) != 6) = false := bne_eq_false_iff_eq.mpr c32
            clear c32
            (first | rw [c32b0] | (simp only [i64_w, i32_w]; rw [c32b0]) | skip)
            have H' := Aside0.mk H
            clear H
            have p306 : 0 ≤ (x10_2 : Int) := of_decide_eq_true (by first | (with_reducible assumption) | assumption)
            have q306 : x10_2 < (l2.length : Int) := of_decide_eq_true (by first | (with_reducible assumption) | assumption)
            obtain ⟨ad306, e306, hx306_0, hx306_1, hx306_2⟩ := at_T27 HR2.out x10_2 p306 q306
            obtain rfl : ad299 = ad306 := (by injection e306)
            have hn306_0 : ad299.block ≠ gb305 := Nat.ne_of_lt (Nat.lt_of_lt_of_le (by have := World.block_lt_of_cell? _ _ hx306_0; first | rwa [add_block] at this | exact this) GW305.out)
            have hn306_1 : ad299.block ≠ gb305 := Nat.ne_of_lt (Nat.lt_of_lt_of_le (by have := World.block_lt_of_cell? _ _ hx306_0; first | rwa [add_block] at this | exact this) GW305.out)
            have hn306_2 : ad299.block ≠ gb305 := Nat.ne_of_lt (Nat.lt_of_lt_of_le (by have := World.block_lt_of_cell? _ _ hx306_0; first | rwa [add_block] at this | exact this) GW305.out)
            have hn306_3 : ad299.block ≠ gb305 := Nat.ne_of_lt (Nat.lt_of_lt_of_le (by have := World.block_lt_of_cell? _ _ hx306_0; first | rwa [add_block] at this | exact this) GW305.out)
            replace hx306_0 := (HB.out.cell (World.block_lt_of_cell? w _ hx306_0)).trans hx306_0
            replace hx306_1 := (HB.out.cell (World.block_lt_of_cell? w _ hx306_1)).trans hx306_1
            replace hx306_2 := (HB.out.cell (World.block_lt_of_cell? w _ hx306_2)).trans hx306_2
            replace hx306_0 := (cell_far (p := ⟨gb305, 0, none⟩) (by first | (rw [add_block]; exact hn306_0) | (show (Addr.add _ _).block ≠ _; rw [add_block]; exact hn306_0) | exact hn306_0) (.int .i64 t300)).trans hx306_0
            replace hx306_1 := (cell_far (p := ⟨gb305, 0, none⟩) (by first | (rw [add_block]; exact hn306_0) | (show (Addr.add _ _).block ≠ _; rw [add_block]; exact hn306_0) | exact hn306_0) (.int .i64 t300)).trans hx306_1
            replace hx306_2 := (cell_far (p := ⟨gb305, 0, none⟩) (by first | (rw [add_block]; exact hn306_0) | (show (Addr.add _ _).block ≠ _; rw [add_block]; exact hn306_0) | exact hn306_0) (.int .i64 t300)).trans hx306_2
            replace hx306_0 := (cell_far (p := ⟨gb305, 1, none⟩) (by first | (rw [add_block]; exact hn306_1) | (show (Addr.add _ _).block ≠ _; rw [add_block]; exact hn306_1) | exact hn306_1) (.int .i64 t301)).trans hx306_0
            replace hx306_1 := (cell_far (p := ⟨gb305, 1, none⟩) (by first | (rw [add_block]; exact hn306_1) | (show (Addr.add _ _).block ≠ _; rw [add_block]; exact hn306_1) | exact hn306_1) (.int .i64 t301)).trans hx306_1
            replace hx306_2 := (cell_far (p := ⟨gb305, 1, none⟩) (by first | (rw [add_block]; exact hn306_1) | (show (Addr.add _ _).block ≠ _; rw [add_block]; exact hn306_1) | exact hn306_1) (.int .i64 t301)).trans hx306_2
            replace hx306_0 := (cell_far (p := ⟨gb305, 2, none⟩) (by first | (rw [add_block]; exact hn306_2) | (show (Addr.add _ _).block ≠ _; rw [add_block]; exact hn306_2) | exact hn306_2) (.int .i64 t302)).trans hx306_0
            replace hx306_1 := (cell_far (p := ⟨gb305, 2, none⟩) (by first | (rw [add_block]; exact hn306_2) | (show (Addr.add _ _).block ≠ _; rw [add_block]; exact hn306_2) | exact hn306_2) (.int .i64 t302)).trans hx306_1
            replace hx306_2 := (cell_far (p := ⟨gb305, 2, none⟩) (by first | (rw [add_block]; exact hn306_2) | (show (Addr.add _ _).block ≠ _; rw [add_block]; exact hn306_2) | exact hn306_2) (.int .i64 t302)).trans hx306_2
            replace hx306_0 := (cell_far (p := ⟨gb305, 3, none⟩) (by first | (rw [add_block]; exact hn306_3) | (show (Addr.add _ _).block ≠ _; rw [add_block]; exact hn306_3) | exact hn306_3) (.bool t303)).trans hx306_0
            replace hx306_1 := (cell_far (p := ⟨gb305, 3, none⟩) (by first | (rw [add_block]; exact hn306_3) | (show (Addr.add _ _).block ≠ _; rw [add_block]; exact hn306_3) | exact hn306_3) (.bool t303)).trans hx306_1
            replace hx306_2 := (cell_far (p := ⟨gb305, 3, none⟩) (by first | (rw [add_block]; exact hn306_3) | (show (Addr.add _ _).block ≠ _; rw [add_block]; exact hn306_3) | exact hn306_3) (.bool t303)).trans hx306_2
            clear hn306_0
            clear hn306_1
            clear hn306_2
            clear hn306_3
            replace p306 := eq_true p306
            replace q306 := eq_true q306
            have p307 : 0 ≤ (x10_2 : Int) := of_decide_eq_true (by first | (with_reducible assumption) | assumption)
            have q307 : x10_2 < (l2.length : Int) := of_decide_eq_true (by first | (with_reducible assumption) | assumption)
            obtain ⟨ad307, e307, hx307_0, hx307_1, hx307_2⟩ := at_T27 HR2.out x10_2 p307 q307
            obtain rfl : ad299 = ad307 := (by injection e307)
            have hn307_0 : ad299.block ≠ gb305 := Nat.ne_of_lt (Nat.lt_of_lt_of_le (by have := World.block_lt_of_cell? _ _ hx307_0; first | rwa [add_block] at this | exact this) GW305.out)
            have hn307_1 : ad299.block ≠ gb305 := Nat.ne_of_lt (Nat.lt_of_lt_of_le (by have := World.block_lt_of_cell? _ _ hx307_0; first | rwa [add_block] at this | exact this) GW305.out)
            have hn307_2 : ad299.block ≠ gb305 := Nat.ne_of_lt (Nat.lt_of_lt_of_le (by have := World.block_lt_of_cell? _ _ hx307_0; first | rwa [add_block] at this | exact this) GW305.out)
            have hn307_3 : ad299.block ≠ gb305 := Nat.ne_of_lt (Nat.lt_of_lt_of_le (by have := World.block_lt_of_cell? _ _ hx307_0; first | rwa [add_block] at this | exact this) GW305.out)
            replace hx307_0 := (HB.out.cell (World.block_lt_of_cell? w _ hx307_0)).trans hx307_0
            replace hx307_1 := (HB.out.cell (World.block_lt_of_cell? w _ hx307_1)).trans hx307_1
            replace hx307_2 := (HB.out.cell (World.block_lt_of_cell? w _ hx307_2)).trans hx307_2
            replace hx307_0 := (cell_far (p := ⟨gb305, 0, none⟩) (by first | (rw [add_block]; exact hn307_0) | (show (Addr.add _ _).block ≠ _; rw [add_block]; exact hn307_0) | exact hn307_0) (.int .i64 t300)).trans hx307_0
            replace hx307_1 := (cell_far (p := ⟨gb305, 0, none⟩) (by first | (rw [add_block]; exact hn307_0) | (show (Addr.add _ _).block ≠ _; rw [add_block]; exact hn307_0) | exact hn307_0) (.int .i64 t300)).trans hx307_1
            replace hx307_2 := (cell_far (p := ⟨gb305, 0, none⟩) (by first | (rw [add_block]; exact hn307_0) | (show (Addr.add _ _).block ≠ _; rw [add_block]; exact hn307_0) | exact hn307_0) (.int .i64 t300)).trans hx307_2
            replace hx307_0 := (cell_far (p := ⟨gb305, 1, none⟩) (by first | (rw [add_block]; exact hn307_1) | (show (Addr.add _ _).block ≠ _; rw [add_block]; exact hn307_1) | exact hn307_1) (.int .i64 t301)).trans hx307_0
            replace hx307_1 := (cell_far (p := ⟨gb305, 1, none⟩) (by first | (rw [add_block]; exact hn307_1) | (show (Addr.add _ _).block ≠ _; rw [add_block]; exact hn307_1) | exact hn307_1) (.int .i64 t301)).trans hx307_1
            replace hx307_2 := (cell_far (p := ⟨gb305, 1, none⟩) (by first | (rw [add_block]; exact hn307_1) | (show (Addr.add _ _).block ≠ _; rw [add_block]; exact hn307_1) | exact hn307_1) (.int .i64 t301)).trans hx307_2
            replace hx307_0 := (cell_far (p := ⟨gb305, 2, none⟩) (by first | (rw [add_block]; exact hn307_2) | (show (Addr.add _ _).block ≠ _; rw [add_block]; exact hn307_2) | exact hn307_2) (.int .i64 t302)).trans hx307_0
            replace hx307_1 := (cell_far (p := ⟨gb305, 2, none⟩) (by first | (rw [add_block]; exact hn307_2) | (show (Addr.add _ _).block ≠ _; rw [add_block]; exact hn307_2) | exact hn307_2) (.int .i64 t302)).trans hx307_1
            replace hx307_2 := (cell_far (p := ⟨gb305, 2, none⟩) (by first | (rw [add_block]; exact hn307_2) | (show (Addr.add _ _).block ≠ _; rw [add_block]; exact hn307_2) | exact hn307_2) (.int .i64 t302)).trans hx307_2
            replace hx307_0 := (cell_far (p := ⟨gb305, 3, none⟩) (by first | (rw [add_block]; exact hn307_3) | (show (Addr.add _ _).block ≠ _; rw [add_block]; exact hn307_3) | exact hn307_3) (.bool t303)).trans hx307_0
            replace hx307_1 := (cell_far (p := ⟨gb305, 3, none⟩) (by first | (rw [add_block]; exact hn307_3) | (show (Addr.add _ _).block ≠ _; rw [add_block]; exact hn307_3) | exact hn307_3) (.bool t303)).trans hx307_1
            replace hx307_2 := (cell_far (p := ⟨gb305, 3, none⟩) (by first | (rw [add_block]; exact hn307_3) | (show (Addr.add _ _).block ≠ _; rw [add_block]; exact hn307_3) | exact hn307_3) (.bool t303)).trans hx307_2
            clear hn307_0
            clear hn307_1
            clear hn307_2
            clear hn307_3
            replace p307 := eq_true p307
            replace q307 := eq_true q307
            go_wp2
            go_meet
            case rel => exact ⟨_, ((((rd_T27 l2 x10_2).f1) == 1)), (by first | rfl | (simp; done) | (simp [*]; done)), H', ⟨by have := HJ5.out; have := HK2.out; first | omega | exact Nat.le_refl _⟩, ⟨by (with_reducible repeat (first | refine blk_drewN ?_ _ | refine blk_drew ?_ | refine blk_alloc ?_ _)); refine blk_far ?_ NB296_305.out _; (with_reducible repeat (first | refine blk_drewN ?_ _ | refine blk_drew ?_ | refine blk_alloc ?_ _)); refine blk_far ?_ NB296_305.out _; (with_reducible repeat (first | refine blk_drewN ?_ _ | refine blk_drew ?_ | refine blk_alloc ?_ _)); refine blk_far ?_ NB296_305.out _; (with_reducible repeat (first | refine blk_drewN ?_ _ | refine blk_drew ?_ | refine blk_alloc ?_ _)); refine blk_far ?_ NB296_305.out _; (with_reducible repeat (first | refine blk_drewN ?_ _ | refine blk_drew ?_ | refine blk_alloc ?_ _)); exact BK296.out⟩, ⟨by (with_reducible repeat (first | refine blk_drewN ?_ _ | refine blk_drew ?_ | refine blk_alloc ?_ _)); refine blk_far ?_ NB297_305.out _; (with_reducible repeat (first | refine blk_drewN ?_ _ | refine blk_drew ?_ | refine blk_alloc ?_ _)); refine blk_far ?_ NB297_305.out _; (with_reducible repeat (first | refine blk_drewN ?_ _ | refine blk_drew ?_ | refine blk_alloc ?_ _)); refine blk_far ?_ NB297_305.out _; (with_reducible repeat (first | refine blk_drewN ?_ _ | refine blk_drew ?_ | refine blk_alloc ?_ _)); refine blk_far ?_ NB297_305.out _; (with_reducible repeat (first | refine blk_drewN ?_ _ | refine blk_drew ?_ | refine blk_alloc ?_ _)); exact BK297.out⟩, ⟨by (with_reducible repeat (first | refine blk_drewN ?_ _ | refine blk_drew ?_ | refine blk_alloc ?_ _)); refine blk_put (cs := #[.int .i64 t300, .int .i64 t301, .int .i64 t302, .bool false]) ?_ 3 _ rfl; (with_reducible repeat (first | refine blk_drewN ?_ _ | refine blk_drew ?_ | refine blk_alloc ?_ _)); refine blk_put (cs := #[.int .i64 t300, .int .i64 t301, .int .i64 0, .bool false]) ?_ 2 _ rfl; (with_reducible repeat (first | refine blk_drewN ?_ _ | refine blk_drew ?_ | refine blk_alloc ?_ _)); refine blk_put (cs := #[.int .i64 t300, .int .i64 0, .int .i64 0, .bool false]) ?_ 1 _ rfl; (with_reducible repeat (first | refine blk_drewN ?_ _ | refine blk_drew ?_ | refine blk_alloc ?_ _)); refine blk_put (cs := #[.int .i64 0, .int .i64 0, .int .i64 0, .bool false]) ?_ 0 _ rfl; (with_reducible repeat (first | refine blk_drewN ?_ _ | refine blk_drew ?_ | refine blk_alloc ?_ _)); exact BK305.out⟩, ⟨by repeat (first | (with_reducible first | exact HB.out | apply below_alloc | apply pw_below_drewN | apply below_drew1 | refine below_set ?_ GE296.out | refine below_set ?_ GE297.out | refine below_set ?_ GE305.out) | exact HB.out)⟩⟩
           ·rw [if_neg c32] at H
            have c32b0 : (((rd_T27 l2 x10_2).f0) == 6) = false := beq_eq_false_iff_ne.mpr c32
            have c32b1 : (((rd_T27 l2 x10_2).f0) != 6) = true := bne_iff_ne.mpr c32
            (first | rw [c32b0] | (simp only [i64_w, i32_w]; rw [c32b0]) | skip)
            have H' := Aside0.mk H
            clear H
            have p306 : 0 ≤ (x10_2 : Int) := of_decide_eq_true (by first | (with_reducible assumption) | assumption)
            have q306 : x10_2 < (l2.length : Int) := of_decide_eq_true (by first | (with_reducible assumption) | assumption)
            obtain ⟨ad306, e306, hx306_0, hx306_1, hx306_2⟩ := at_T27 HR2.out x10_2 p306 q306
            obtain rfl : ad299 = ad306 := (by injection e306)
            have hn306_0 : ad299.block ≠ gb305 := Nat.ne_of_lt (Nat.lt_of_lt_of_le (by have := World.block_lt_of_cell? _ _ hx306_0; first | rwa [add_block] at this | exact this) GW305.out)
            have hn306_1 : ad299.block ≠ gb305 := Nat.ne_of_lt (Nat.lt_of_lt_of_le (by have := World.block_lt_of_cell? _ _ hx306_0; first | rwa [add_block] at this | exact this) GW305.out)
            have hn306_2 : ad299.block ≠ gb305 := Nat.ne_of_lt (Nat.lt_of_lt_of_le (by have := World.block_lt_of_cell? _ _ hx306_0; first | rwa [add_block] at this | exact this) GW305.out)
            have hn306_3 : ad299.block ≠ gb305 := Nat.ne_of_lt (Nat.lt_of_lt_of_le (by have := World.block_lt_of_cell? _ _ hx306_0; first | rwa [add_block] at this | exact this) GW305.out)
            replace hx306_0 := (HB.out.cell (World.block_lt_of_cell? w _ hx306_0)).trans hx306_0
            replace hx306_1 := (HB.out.cell (World.block_lt_of_cell? w _ hx306_1)).trans hx306_1
            replace hx306_2 := (HB.out.cell (World.block_lt_of_cell? w _ hx306_2)).trans hx306_2
            replace hx306_0 := (cell_far (p := ⟨gb305, 0, none⟩) (by first | (rw [add_block]; exact hn306_0) | (show (Addr.add _ _).block ≠ _; rw [add_block]; exact hn306_0) | exact hn306_0) (.int .i64 t300)).trans hx306_0
            replace hx306_1 := (cell_far (p := ⟨gb305, 0, none⟩) (by first | (rw [add_block]; exact hn306_0) | (show (Addr.add _ _).block ≠ _; rw [add_block]; exact hn306_0) | exact hn306_0) (.int .i64 t300)).trans hx306_1
            replace hx306_2 := (cell_far (p := ⟨gb305, 0, none⟩) (by first | (rw [add_block]; exact hn306_0) | (show (Addr.add _ _).block ≠ _; rw [add_block]; exact hn306_0) | exact hn306_0) (.int .i64 t300)).trans hx306_2
            replace hx306_0 := (cell_far (p := ⟨gb305, 1, none⟩) (by first | (rw [add_block]; exact hn306_1) | (show (Addr.add _ _).block ≠ _; rw [add_block]; exact hn306_1) | exact hn306_1) (.int .i64 t301)).trans hx306_0
            replace hx306_1 := (cell_far (p := ⟨gb305, 1, none⟩) (by first | (rw [add_block]; exact hn306_1) | (show (Addr.add _ _).block ≠ _; rw [add_block]; exact hn306_1) | exact hn306_1) (.int .i64 t301)).trans hx306_1
            replace hx306_2 := (cell_far (p := ⟨gb305, 1, none⟩) (by first | (rw [add_block]; exact hn306_1) | (show (Addr.add _ _).block ≠ _; rw [add_block]; exact hn306_1) | exact hn306_1) (.int .i64 t301)).trans hx306_2
            replace hx306_0 := (cell_far (p := ⟨gb305, 2, none⟩) (by first | (rw [add_block]; exact hn306_2) | (show (Addr.add _ _).block ≠ _; rw [add_block]; exact hn306_2) | exact hn306_2) (.int .i64 t302)).trans hx306_0
            replace hx306_1 := (cell_far (p := ⟨gb305, 2, none⟩) (by first | (rw [add_block]; exact hn306_2) | (show (Addr.add _ _).block ≠ _; rw [add_block]; exact hn306_2) | exact hn306_2) (.int .i64 t302)).trans hx306_1
            replace hx306_2 := (cell_far (p := ⟨gb305, 2, none⟩) (by first | (rw [add_block]; exact hn306_2) | (show (Addr.add _ _).block ≠ _; rw [add_block]; exact hn306_2) | exact hn306_2) (.int .i64 t302)).trans hx306_2
            replace hx306_0 := (cell_far (p := ⟨gb305, 3, none⟩) (by first | (rw [add_block]; exact hn306_3) | (show (Addr.add _ _).block ≠ _; rw [add_block]; exact hn306_3) | exact hn306_3) (.bool t303)).trans hx306_0
            replace hx306_1 := (cell_far (p := ⟨gb305, 3, none⟩) (by first | (rw [add_block]; exact hn306_3) | (show (Addr.add _ _).block ≠ _; rw [add_block]; exact hn306_3) | exact hn306_3) (.bool t303)).trans hx306_1
            replace hx306_2 := (cell_far (p := ⟨gb305, 3, none⟩) (by first | (rw [add_block]; exact hn306_3) | (show (Addr.add _ _).block ≠ _; rw [add_block]; exact hn306_3) | exact hn306_3) (.bool t303)).trans hx306_2
            clear hn306_0
            clear hn306_1
            clear hn306_2
            clear hn306_3
            replace p306 := eq_true p306
            replace q306 := eq_true q306
            go_wp2
            go_meet
            case rel => exact ⟨_, (false), (by first | rfl | (simp; done) | (simp [*]; done)), H', ⟨by have := HJ5.out; have := HK2.out; first | omega | exact Nat.le_refl _⟩, ⟨by (with_reducible repeat (first | refine blk_drewN ?_ _ | refine blk_drew ?_ | refine blk_alloc ?_ _)); refine blk_far ?_ NB296_305.out _; (with_reducible repeat (first | refine blk_drewN ?_ _ | refine blk_drew ?_ | refine blk_alloc ?_ _)); refine blk_far ?_ NB296_305.out _; (with_reducible repeat (first | refine blk_drewN ?_ _ | refine blk_drew ?_ | refine blk_alloc ?_ _)); refine blk_far ?_ NB296_305.out _; (with_reducible repeat (first | refine blk_drewN ?_ _ | refine blk_drew ?_ | refine blk_alloc ?_ _)); refine blk_far ?_ NB296_305.out _; (with_reducible repeat (first | refine blk_drewN ?_ _ | refine blk_drew ?_ | refine blk_alloc ?_ _)); exact BK296.out⟩, ⟨by (with_reducible repeat (first | refine blk_drewN ?_ _ | refine blk_drew ?_ | refine blk_alloc ?_ _)); refine blk_far ?_ NB297_305.out _; (with_reducible repeat (first | refine blk_drewN ?_ _ | refine blk_drew ?_ | refine blk_alloc ?_ _)); refine blk_far ?_ NB297_305.out _; (with_reducible repeat (first | refine blk_drewN ?_ _ | refine blk_drew ?_ | refine blk_alloc ?_ _)); refine blk_far ?_ NB297_305.out _; (with_reducible repeat (first | refine blk_drewN ?_ _ | refine blk_drew ?_ | refine blk_alloc ?_ _)); refine blk_far ?_ NB297_305.out _; (with_reducible repeat (first | refine blk_drewN ?_ _ | refine blk_drew ?_ | refine blk_alloc ?_ _)); exact BK297.out⟩, ⟨by (with_reducible repeat (first | refine blk_drewN ?_ _ | refine blk_drew ?_ | refine blk_alloc ?_ _)); refine blk_put (cs := #[.int .i64 t300, .int .i64 t301, .int .i64 t302, .bool false]) ?_ 3 _ rfl; (with_reducible repeat (first | refine blk_drewN ?_ _ | refine blk_drew ?_ | refine blk_alloc ?_ _)); refine blk_put (cs := #[.int .i64 t300, .int .i64 t301, .int .i64 0, .bool false]) ?_ 2 _ rfl; (with_reducible repeat (first | refine blk_drewN ?_ _ | refine blk_drew ?_ | refine blk_alloc ?_ _)); refine blk_put (cs := #[.int .i64 t300, .int .i64 0, .int .i64 0, .bool false]) ?_ 1 _ rfl; (with_reducible repeat (first | refine blk_drewN ?_ _ | refine blk_drew ?_ | refine blk_alloc ?_ _)); refine blk_put (cs := #[.int .i64 0, .int .i64 0, .int .i64 0, .bool false]) ?_ 0 _ rfl; (with_reducible repeat (first | refine blk_drewN ?_ _ | refine blk_drew ?_ | refine blk_alloc ?_ _)); exact BK305.out⟩, ⟨by repeat (first | (with_reducible first | exact HB.out | apply below_alloc | apply pw_below_drewN | apply below_drew1 | refine below_set ?_ GE296.out | refine below_set ?_ GE297.out | refine below_set ?_ GE305.out) | exact HB.out)⟩⟩
         case rest =>
          clear HC22
          try clear c1
          try clear c2
          try clear p2
          try clear q2
          try clear hx2
          try clear c3
          try clear p3
          try clear q3
          try clear hx3
          try clear p6
          try clear c7
          try clear c10
          try clear c11
          try clear c14
          try clear c15
          try clear c16
          try clear c18
          try clear c18b0
          try clear c19
          try clear c19b0
          try clear c21
          try clear c21b0
          try clear c21b1
          try clear p29
          try clear q29
          try clear hx29
          try clear p30
          try clear q30
          try clear hx30
          try clear c31
          try clear c32
          try clear c32b0
          try clear c32b1
          try clear hcz11_0
          try clear hcz11_1
          try clear hcz11_2
          try clear hcz11_3
          try clear hcz11_4
          try clear hcz11_5
          try clear hcz11_6
          try clear hcz11_7
          try clear hcz12_0
          try clear hcz12_1
          try clear hcz12_2
          try clear hcz12_3
          try clear hcz17_0
          try clear hcz17_1
          try clear hcz17_2
          try clear hcz17_3
          try clear hfz11_0
          try clear hfz11_1
          try clear hfz11_2
          try clear hfz11_3
          try clear hfz11_4
          try clear hfz11_5
          try clear hfz11_6
          try clear hfz11_7
          try clear hfz12_0
          try clear hfz12_1
          try clear hfz12_2
          try clear hfz12_3
          try clear hfz17_0
          try clear hfz17_1
          try clear hfz17_2
          try clear hfz17_3
          try clear hx299_0
          try clear hx299_1
          try clear hx299_2
          try clear hx306_0
          try clear hx306_1
          try clear hx306_2
          try clear hx307_0
          try clear hx307_1
          try clear hx307_2
          try clear p2
          try clear p299
          try clear p306
          try clear p307
          try clear q299
          try clear q306
          try clear q307
          obtain ⟨kq, x9_21, rfl, HA, HJ21, BK296, BK297, BK305, HB⟩ := hcut
          cases kq with
          | zero => exact absurd HA.out (by simp [chargeparklaw12_ChargerWelded.j2])
          | succ kj21 =>
           have H := HA.out
           clear HA
           simp only [chargeparklaw12_ChargerWelded.j2] at H
           by_cases c33 : x7_2 = true
           ·subst c33
            have H1 : (if (t303 == x9_21) = true then (if x9_21 = true then ((charger_Allowed.f a0_0 a0_1 a0_2 a0_3 a0_4 a0_5 a0_6 a0_7 t300 t301 t302 t303).bind fun t308 => (if t308 = a0_4 then (chargeparklaw12_ChargerWelded.l0 kj21 l2 (t300 == 5) x9_21 (wrap64 (x10_2 + 1)) a0_0 a0_1 a0_2 a0_3 a0_4 a0_5 a0_6 a0_7 t300 t301 t302 t303) else (chargeparklaw12_ChargerWelded.l0 kj21 l2 false x9_21 (wrap64 (x10_2 + 1)) a0_0 a0_1 a0_2 a0_3 a0_4 a0_5 a0_6 a0_7 t300 t301 t302 t303))) else (chargeparklaw12_ChargerWelded.l0 kj21 l2 true x9_21 (wrap64 (x10_2 + 1)) a0_0 a0_1 a0_2 a0_3 a0_4 a0_5 a0_6 a0_7 t300 t301 t302 t303)) else (chargeparklaw12_ChargerWelded.l0 kj21 l2 false x9_21 (wrap64 (x10_2 + 1)) a0_0 a0_1 a0_2 a0_3 a0_4 a0_5 a0_6 a0_7 t300 t301 t302 t303)) = some r := by rw [if_pos rfl] at H; exact H
            clear H
            have H := H1
            clear H1
            by_cases c34 : (t303 == x9_21) = true
            ·rw [if_pos c34] at H
             have c34b0 : (t303 == x9_21) = true := c34
             (try (have c34b1 : decide (t303 = x9_21) = true := by simpa using c34))
             (try (have c34b2 : (t303 == x9_21) = true := by simpa using c34))
             clear c34
             by_cases c35 : x9_21 = true
             ·subst c35
              have H1 : ((charger_Allowed.f a0_0 a0_1 a0_2 a0_3 a0_4 a0_5 a0_6 a0_7 t300 t301 t302 t303).bind fun t308 => (if t308 = a0_4 then (chargeparklaw12_ChargerWelded.l0 kj21 l2 (t300 == 5) true (wrap64 (x10_2 + 1)) a0_0 a0_1 a0_2 a0_3 a0_4 a0_5 a0_6 a0_7 t300 t301 t302 t303) else (chargeparklaw12_ChargerWelded.l0 kj21 l2 false true (wrap64 (x10_2 + 1)) a0_0 a0_1 a0_2 a0_3 a0_4 a0_5 a0_6 a0_7 t300 t301 t302 t303))) = some r := by rw [if_pos rfl] at H; exact H
              clear H
              have H := H1
              clear H1
              replace H := Option.bind_eq_some_iff.mp H
              obtain ⟨t308, A360, H⟩ := H
              replace H : (if t308 = a0_4 then (chargeparklaw12_ChargerWelded.l0 kj21 l2 (t300 == 5) true (wrap64 (x10_2 + 1)) a0_0 a0_1 a0_2 a0_3 a0_4 a0_5 a0_6 a0_7 t300 t301 t302 t303) else (chargeparklaw12_ChargerWelded.l0 kj21 l2 false true (wrap64 (x10_2 + 1)) a0_0 a0_1 a0_2 a0_3 a0_4 a0_5 a0_6 a0_7 t300 t301 t302 t303)) = some r := H
              have A36 := Aside0.mk A360
              clear A360
              by_cases c37 : t308 = a0_4
              ·rw [if_pos c37] at H
               have c37b0 : (t308 == a0_4) = true := beq_iff_eq.mpr c37
               have c37b1 : (t308 != a0_4) = false := bne_eq_false_iff_eq.mpr c37
               clear c37
               have H' := Aside0.mk H
               clear H
               have hnb38 := NB305_296.out
               have hnc38 := NB296_305.out
               have hnb39 := NB305_297.out
               have hnc39 := NB297_305.out
               have hcz40_0 : wc.cell? ⟨gb305, 0, none⟩ = some (.int .i64 t300) := (blk_cell BK305.out 0).trans rfl
               have hcz40_1 : wc.cell? ⟨gb305, 1, none⟩ = some (.int .i64 t301) := (blk_cell BK305.out 1).trans rfl
               have hcz40_2 : wc.cell? ⟨gb305, 2, none⟩ = some (.int .i64 t302) := (blk_cell BK305.out 2).trans rfl
               have hcz40_3 : wc.cell? ⟨gb305, 3, none⟩ = some (.bool t303) := (blk_cell BK305.out 3).trans rfl
               have hfz40_0 := blk_frozen BK305.out 0
               have hfz40_1 := blk_frozen BK305.out 1
               have hfz40_2 := blk_frozen BK305.out 2
               have hfz40_3 := blk_frozen BK305.out 3
               have hnb41 := NB297_296.out
               have hnc41 := NB296_297.out
               have hcz42_0 : wc.cell? ⟨gb297, 0, none⟩ = some (.int .i64 x298000_2) := (blk_cell BK297.out 0).trans rfl
               have hcz42_1 : wc.cell? ⟨gb297, 1, none⟩ = some (.int .i64 x298001_2) := (blk_cell BK297.out 1).trans rfl
               have hcz42_2 : wc.cell? ⟨gb297, 2, none⟩ = some (.int .i64 x298002_2) := (blk_cell BK297.out 2).trans rfl
               have hcz42_3 : wc.cell? ⟨gb297, 3, none⟩ = some (.bool x298003_2) := (blk_cell BK297.out 3).trans rfl
               have hfz42_0 := blk_frozen BK297.out 0
               have hfz42_1 := blk_frozen BK297.out 1
               have hfz42_2 := blk_frozen BK297.out 2
               have hfz42_3 := blk_frozen BK297.out 3
               try go_wp2
               have n0_ : Aside0 (((((wc.setCell ⟨gb297, 0, none⟩ (.int .i64 t300)).setCell ⟨gb297, 1, none⟩ (.int .i64 t301)).setCell ⟨gb297, 2, none⟩ (.int .i64 t302)).setCell ⟨gb297, 3, none⟩ (.bool t303)).heap[gb296]? = some (.cells #[.string a0_0, .int .i64 a0_1, .int .i64 a0_2, .int .i64 a0_3, .int .i64 a0_4, .int .i64 a0_5, .int .i64 a0_6, .int .i64 a0_7] 23 (0, 0))) := ⟨by (with_reducible repeat (first | refine blk_drewN ?_ _ | refine blk_drew ?_ | refine blk_alloc ?_ _)); refine blk_far ?_ NB296_297.out _; (with_reducible repeat (first | refine blk_drewN ?_ _ | refine blk_drew ?_ | refine blk_alloc ?_ _)); refine blk_far ?_ NB296_297.out _; (with_reducible repeat (first | refine blk_drewN ?_ _ | refine blk_drew ?_ | refine blk_alloc ?_ _)); refine blk_far ?_ NB296_297.out _; (with_reducible repeat (first | refine blk_drewN ?_ _ | refine blk_drew ?_ | refine blk_alloc ?_ _)); refine blk_far ?_ NB296_297.out _; (with_reducible repeat (first | refine blk_drewN ?_ _ | refine blk_drew ?_ | refine blk_alloc ?_ _)); exact BK296.out⟩
               have n1_ : Aside0 (((((wc.setCell ⟨gb297, 0, none⟩ (.int .i64 t300)).setCell ⟨gb297, 1, none⟩ (.int .i64 t301)).setCell ⟨gb297, 2, none⟩ (.int .i64 t302)).setCell ⟨gb297, 3, none⟩ (.bool t303)).heap[gb297]? = some (.cells #[.int .i64 t300, .int .i64 t301, .int .i64 t302, .bool t303] 25 (0, 0))) := ⟨by (with_reducible repeat (first | refine blk_drewN ?_ _ | refine blk_drew ?_ | refine blk_alloc ?_ _)); refine blk_put (cs := #[.int .i64 t300, .int .i64 t301, .int .i64 t302, .bool x298003_2]) ?_ 3 _ rfl; (with_reducible repeat (first | refine blk_drewN ?_ _ | refine blk_drew ?_ | refine blk_alloc ?_ _)); refine blk_put (cs := #[.int .i64 t300, .int .i64 t301, .int .i64 x298002_2, .bool x298003_2]) ?_ 2 _ rfl; (with_reducible repeat (first | refine blk_drewN ?_ _ | refine blk_drew ?_ | refine blk_alloc ?_ _)); refine blk_put (cs := #[.int .i64 t300, .int .i64 x298001_2, .int .i64 x298002_2, .bool x298003_2]) ?_ 1 _ rfl; (with_reducible repeat (first | refine blk_drewN ?_ _ | refine blk_drew ?_ | refine blk_alloc ?_ _)); refine blk_put (cs := #[.int .i64 x298000_2, .int .i64 x298001_2, .int .i64 x298002_2, .bool x298003_2]) ?_ 0 _ rfl; (with_reducible repeat (first | refine blk_drewN ?_ _ | refine blk_drew ?_ | refine blk_alloc ?_ _)); exact BK297.out⟩
               have n2_ : Aside0 (((((wc.setCell ⟨gb297, 0, none⟩ (.int .i64 t300)).setCell ⟨gb297, 1, none⟩ (.int .i64 t301)).setCell ⟨gb297, 2, none⟩ (.int .i64 t302)).setCell ⟨gb297, 3, none⟩ (.bool t303)).heap[gb305]? = some (.cells #[.int .i64 t300, .int .i64 t301, .int .i64 t302, .bool t303] 25 (0, 0))) := ⟨by (with_reducible repeat (first | refine blk_drewN ?_ _ | refine blk_drew ?_ | refine blk_alloc ?_ _)); refine blk_far ?_ NB305_297.out _; (with_reducible repeat (first | refine blk_drewN ?_ _ | refine blk_drew ?_ | refine blk_alloc ?_ _)); refine blk_far ?_ NB305_297.out _; (with_reducible repeat (first | refine blk_drewN ?_ _ | refine blk_drew ?_ | refine blk_alloc ?_ _)); refine blk_far ?_ NB305_297.out _; (with_reducible repeat (first | refine blk_drewN ?_ _ | refine blk_drew ?_ | refine blk_alloc ?_ _)); refine blk_far ?_ NB305_297.out _; (with_reducible repeat (first | refine blk_drewN ?_ _ | refine blk_drew ?_ | refine blk_alloc ?_ _)); exact BK305.out⟩
               have n3_ : Aside0 (Below w.heap.size w ((((wc.setCell ⟨gb297, 0, none⟩ (.int .i64 t300)).setCell ⟨gb297, 1, none⟩ (.int .i64 t301)).setCell ⟨gb297, 2, none⟩ (.int .i64 t302)).setCell ⟨gb297, 3, none⟩ (.bool t303))) := ⟨by repeat (first | (with_reducible first | exact HB.out | apply below_alloc | apply pw_below_drewN | apply below_drew1 | refine below_set ?_ GE296.out | refine below_set ?_ GE297.out | refine below_set ?_ GE305.out) | exact HB.out)⟩
               (try clear BK296)
               (try clear BK297)
               (try clear BK305)
               (try clear HB)
               generalize ((((wc.setCell ⟨gb297, 0, none⟩ (.int .i64 t300)).setCell ⟨gb297, 1, none⟩ (.int .i64 t301)).setCell ⟨gb297, 2, none⟩ (.int .i64 t302)).setCell ⟨gb297, 3, none⟩ (.bool t303)) = w43 at n0_ n1_ n2_ n3_ ⊢
               have BK296 := n0_
               have BK297 := n1_
               have BK305 := n2_
               have HB := n3_
               clear n0_ n1_ n2_ n3_
               have n0_ := Aside0.mk (blk_drew BK296.out)
               have n1_ := Aside0.mk (blk_drew BK297.out)
               have n2_ := Aside0.mk (blk_drew BK305.out)
               have n3_ := Aside0.mk (below_drew1 HB.out)
               clear BK296
               clear BK297
               clear BK305
               clear HB
               have BK296 := n0_
               have BK297 := n1_
               have BK305 := n2_
               have HB := n3_
               clear n0_ n1_ n2_ n3_
               refine start_ (n := 25) (S := fun w' => w'.cell? ⟨gb297, 0, none⟩ = some (.int .i64 t300) ∧ w'.cell? ⟨gb297, 1, none⟩ = some (.int .i64 t301) ∧ w'.cell? ⟨gb297, 2, none⟩ = some (.int .i64 t302) ∧ w'.cell? ⟨gb297, 3, none⟩ = some (.bool t303) ∧ w'.cell? ⟨gb296, 0, none⟩ = some (.string a0_0) ∧ w'.cell? ⟨gb296, 1, none⟩ = some (.int .i64 a0_1) ∧ w'.cell? ⟨gb296, 2, none⟩ = some (.int .i64 a0_2) ∧ w'.cell? ⟨gb296, 3, none⟩ = some (.int .i64 a0_3) ∧ w'.cell? ⟨gb296, 4, none⟩ = some (.int .i64 a0_4) ∧ w'.cell? ⟨gb296, 5, none⟩ = some (.int .i64 a0_5) ∧ w'.cell? ⟨gb296, 6, none⟩ = some (.int .i64 a0_6) ∧ w'.cell? ⟨gb296, 7, none⟩ = some (.int .i64 a0_7)) (ds := []) #[false, false, false, false, false, false, false, false, false, false, false, false, false, false, false, false, false, false, false, false, false, false, false, false, false] (by kernel_rfl) rfl rfl ⟨(blk_cell BK297.out 0).trans rfl, (blk_cell BK297.out 1).trans rfl, (blk_cell BK297.out 2).trans rfl, (blk_cell BK297.out 3).trans rfl, (blk_cell BK296.out 0).trans rfl, (blk_cell BK296.out 1).trans rfl, (blk_cell BK296.out 2).trans rfl, (blk_cell BK296.out 3).trans rfl, (blk_cell BK296.out 4).trans rfl, (blk_cell BK296.out 5).trans rfl, (blk_cell BK296.out 6).trans rfl, (blk_cell BK296.out 7).trans rfl⟩ (fun hHeld => ?_); refine with_tabW chargeparklaw12_ChargerWelded.tab13 chargeparklaw12_ChargerWelded.bits13 (fun HT_ HW_ => ?_)
               generalize w43.drew = w44 at BK296 BK297 BK305 HB hHeld ⊢
               refine pure_ (i := 0) (N := some 63) (v := ?_) (a' := ?_) #[true, false, false, false, false, false, false, false, false, false, false, false, false, false, false, false, false, false, false, false, false, false, false, false, false] rfl rfl (any_of HT_.out (by kernel_rfl)) (fun _ _ _ h => h) (Or.inl ⟨by rfl, ?_⟩) ?_ ?_
               rotate_left
               ·intro w'
                go_simp
                with_reducible rfl
               rotate_left
               ·simp only [Act.put, List.setIfInBounds_toArray, List.set_cons_zero, List.set_cons_succ, i64_w, i32_w]
                rfl
               refine pure_ (i := 1) (N := some 64) (v := ?_) (a' := ?_) #[true, true, false, false, false, false, false, false, false, false, false, false, false, false, false, false, false, false, false, false, false, false, false, false, false] rfl rfl (any_of HT_.out (by kernel_rfl)) (fun _ _ _ h => h) (Or.inl ⟨by rfl, ?_⟩) ?_ ?_
               rotate_left
               ·intro w'
                go_simp
                with_reducible rfl
               rotate_left
               ·simp only [Act.put, List.setIfInBounds_toArray, List.set_cons_zero, List.set_cons_succ, i64_w, i32_w]
                rfl
               refine pure_ (i := 2) (N := some 65) (v := ?_) (a' := ?_) #[true, true, true, false, false, false, false, false, false, false, false, false, false, false, false, false, false, false, false, false, false, false, false, false, false] rfl rfl (any_of HT_.out (by kernel_rfl)) (fun _ _ _ h => h) (Or.inl ⟨by rfl, ?_⟩) ?_ ?_
               rotate_left
               ·intro w'
                go_simp
                with_reducible rfl
               rotate_left
               ·simp only [Act.put, List.setIfInBounds_toArray, List.set_cons_zero, List.set_cons_succ, i64_w, i32_w]
                rfl
               refine pure_ (i := 4) (N := some 67) (v := ?_) (a' := ?_) #[true, true, true, false, true, false, false, false, false, false, false, false, false, false, false, false, false, false, false, false, false, false, false, false, false] rfl rfl (any_of HT_.out (by kernel_rfl)) (fun _ _ _ h => h) (Or.inl ⟨by rfl, ?_⟩) ?_ ?_
               rotate_left
               ·intro w'
                go_simp
                with_reducible rfl
               rotate_left
               ·simp only [Act.put, List.setIfInBounds_toArray, List.set_cons_zero, List.set_cons_succ, i64_w, i32_w]
                rfl
               refine take_ (i := 3) (N := some 66) (v := ?_) (a' := ?_) #[true, true, true, true, true, false, false, false, false, false, false, false, false, false, false, false, false, false, false, false, false, false, false, false, false] rfl rfl (take_ofW HT_.out HW_.out (by kernel_rfl)) (fun _ _ _ h => h) (Or.inl ⟨by rfl, ?_⟩) hHeld ?_ ?_
               rotate_left
               ·rintro w' ⟨s0, s1, s2, s3, s4, s5, s6, s7, s8, s9, s10, s11⟩
                go_simp
                with_reducible rfl
               rotate_left
               ·simp only [Act.put, List.setIfInBounds_toArray, List.set_cons_zero, List.set_cons_succ, i64_w, i32_w]
                rfl
               refine pure_ (i := 5) (N := some 68) (v := ?_) (a' := ?_) #[true, true, true, true, true, true, false, false, false, false, false, false, false, false, false, false, false, false, false, false, false, false, false, false, false] rfl rfl (any_of HT_.out (by kernel_rfl)) (fun _ _ _ h => h) (Or.inl ⟨by rfl, ?_⟩) ?_ ?_
               rotate_left
               ·intro w'
                go_simp
                with_reducible rfl
               rotate_left
               ·simp only [Act.put, List.setIfInBounds_toArray, List.set_cons_zero, List.set_cons_succ, i64_w, i32_w]
                rfl
               refine pure_ (i := 6) (N := some 69) (v := ?_) (a' := ?_) #[true, true, true, true, true, true, true, false, false, false, false, false, false, false, false, false, false, false, false, false, false, false, false, false, false] rfl rfl (any_of HT_.out (by kernel_rfl)) (fun _ _ _ h => h) (Or.inl ⟨by rfl, ?_⟩) ?_ ?_
               rotate_left
               ·intro w'
                go_simp
                with_reducible rfl
               rotate_left
               ·simp only [Act.put, List.setIfInBounds_toArray, List.set_cons_zero, List.set_cons_succ, i64_w, i32_w]
                rfl
               refine pure_ (i := 7) (N := some 70) (v := ?_) (a' := ?_) #[true, true, true, true, true, true, true, true, false, false, false, false, false, false, false, false, false, false, false, false, false, false, false, false, false] rfl rfl (any_of HT_.out (by kernel_rfl)) (fun _ _ _ h => h) (Or.inl ⟨by rfl, ?_⟩) ?_ ?_
               rotate_left
               ·intro w'
                go_simp
                with_reducible rfl
               rotate_left
               ·simp only [Act.put, List.setIfInBounds_toArray, List.set_cons_zero, List.set_cons_succ, i64_w, i32_w]
                rfl
               refine pure_ (i := 8) (N := some 71) (v := ?_) (a' := ?_) #[true, true, true, true, true, true, true, true, true, false, false, false, false, false, false, false, false, false, false, false, false, false, false, false, false] rfl rfl (any_of HT_.out (by kernel_rfl)) (fun _ _ _ h => h) (Or.inl ⟨by rfl, ?_⟩) ?_ ?_
               rotate_left
               ·intro w'
                go_simp
                with_reducible rfl
               rotate_left
               ·simp only [Act.put, List.setIfInBounds_toArray, List.set_cons_zero, List.set_cons_succ, i64_w, i32_w]
                rfl
               refine pure_ (i := 9) (N := some 72) (v := ?_) (a' := ?_) #[true, true, true, true, true, true, true, true, true, true, false, false, false, false, false, false, false, false, false, false, false, false, false, false, false] rfl rfl (any_of HT_.out (by kernel_rfl)) (fun _ _ _ h => h) (Or.inl ⟨by rfl, ?_⟩) ?_ ?_
               rotate_left
               ·intro w'
                go_simp
                with_reducible rfl
               rotate_left
               ·simp only [Act.put, List.setIfInBounds_toArray, List.set_cons_zero, List.set_cons_succ, i64_w, i32_w]
                rfl
               refine pure_ (i := 10) (N := some 73) (v := ?_) (a' := ?_) #[true, true, true, true, true, true, true, true, true, true, true, false, false, false, false, false, false, false, false, false, false, false, false, false, false] rfl rfl (any_of HT_.out (by kernel_rfl)) (fun _ _ _ h => h) (Or.inl ⟨by rfl, ?_⟩) ?_ ?_
               rotate_left
               ·intro w'
                go_simp
                with_reducible rfl
               rotate_left
               ·simp only [Act.put, List.setIfInBounds_toArray, List.set_cons_zero, List.set_cons_succ, i64_w, i32_w]
                rfl
               refine pure_ (i := 14) (N := some 77) (v := ?_) (a' := ?_) #[true, true, true, true, true, true, true, true, true, true, true, false, false, false, true, false, false, false, false, false, false, false, false, false, false] rfl rfl (any_of HT_.out (by kernel_rfl)) (fun _ _ _ h => h) (Or.inl ⟨by rfl, ?_⟩) ?_ ?_
               rotate_left
               ·intro w'
                go_simp
                with_reducible rfl
               rotate_left
               ·simp only [Act.put, List.setIfInBounds_toArray, List.set_cons_zero, List.set_cons_succ, i64_w, i32_w]
                rfl
               refine take_ (i := 11) (N := some 74) (v := ?_) (a' := ?_) #[true, true, true, true, true, true, true, true, true, true, true, true, false, false, true, false, false, false, false, false, false, false, false, false, false] rfl rfl (take_ofW HT_.out HW_.out (by kernel_rfl)) (fun _ _ _ h => h) (Or.inl ⟨by rfl, ?_⟩) hHeld ?_ ?_
               rotate_left
               ·rintro w' ⟨s0, s1, s2, s3, s4, s5, s6, s7, s8, s9, s10, s11⟩
                go_simp
                with_reducible rfl
               rotate_left
               ·simp only [Act.put, List.setIfInBounds_toArray, List.set_cons_zero, List.set_cons_succ, i64_w, i32_w]
                rfl
               refine take_ (i := 12) (N := some 75) (v := ?_) (a' := ?_) #[true, true, true, true, true, true, true, true, true, true, true, true, true, false, true, false, false, false, false, false, false, false, false, false, false] rfl rfl (take_ofW HT_.out HW_.out (by kernel_rfl)) (fun _ _ _ h => h) (Or.inl ⟨by rfl, ?_⟩) hHeld ?_ ?_
               rotate_left
               ·rintro w' ⟨s0, s1, s2, s3, s4, s5, s6, s7, s8, s9, s10, s11⟩
                go_simp
                with_reducible rfl
               rotate_left
               ·simp only [Act.put, List.setIfInBounds_toArray, List.set_cons_zero, List.set_cons_succ, i64_w, i32_w]
                rfl
               refine take_ (i := 15) (N := some 78) (v := ?_) (a' := ?_) #[true, true, true, true, true, true, true, true, true, true, true, true, true, false, true, true, false, false, false, false, false, false, false, false, false] rfl rfl (take_ofW HT_.out HW_.out (by kernel_rfl)) (fun _ _ _ h => h) (Or.inl ⟨by rfl, ?_⟩) hHeld ?_ ?_
               rotate_left
               ·rintro w' ⟨s0, s1, s2, s3, s4, s5, s6, s7, s8, s9, s10, s11⟩
                go_simp
                with_reducible rfl
               rotate_left
               ·simp only [Act.put, List.setIfInBounds_toArray, List.set_cons_zero, List.set_cons_succ, i64_w, i32_w]
                rfl
               refine one_ (i := 13) (N := some 76) #[true, true, true, true, true, true, true, true, true, true, true, true, true, true, true, true, false, false, false, false, false, false, false, false, false] rfl rfl (one_of HT_.out (by kernel_rfl)) (by decide) (fun K hK => ?_)
               refine goes_ Tryd.func15 (by kernel_rfl) rfl #[.agg #[.string a0_0, .int .i64 a0_1, .int .i64 a0_2, .int .i64 a0_3, .int .i64 a0_4, .int .i64 a0_5, .int .i64 a0_6, .int .i64 a0_7], .agg #[.int .i64 t300, .int .i64 t301, .int .i64 t302, .bool t303]] (by rfl) rfl rfl (by (try simp only [List.map_toArray, List.map_cons, List.map_nil]); first | done | rfl | (simp only [List.length_drop, List.length_take]; rfl)) ?_
               with_reducible refine (charger_Allowed.calls a0_0 a0_1 a0_2 a0_3 a0_4 a0_5 a0_6 a0_7 t300 t301 t302 t303 t308 _ A36.out).mono ?_
               rintro e w45 ⟨rfl, hb⟩
               refine ⟨_, rfl, ?_⟩
               have n0_ := Aside0.mk (blk_below (g := gb296) (o := .cells #[.string a0_0, .int .i64 a0_1, .int .i64 a0_2, .int .i64 a0_3, .int .i64 a0_4, .int .i64 a0_5, .int .i64 a0_6, .int .i64 a0_7] 23 (0, 0)) (by (with_reducible repeat (first | refine blk_drewN ?_ _ | refine blk_drew ?_ | refine blk_alloc ?_ _)); exact BK296.out) hb)
               have n1_ := Aside0.mk (blk_below (g := gb297) (o := .cells #[.int .i64 t300, .int .i64 t301, .int .i64 t302, .bool t303] 25 (0, 0)) (by (with_reducible repeat (first | refine blk_drewN ?_ _ | refine blk_drew ?_ | refine blk_alloc ?_ _)); exact BK297.out) hb)
               have n2_ := Aside0.mk (blk_below (g := gb305) (o := .cells #[.int .i64 t300, .int .i64 t301, .int .i64 t302, .bool t303] 25 (0, 0)) (by (with_reducible repeat (first | refine blk_drewN ?_ _ | refine blk_drew ?_ | refine blk_alloc ?_ _)); exact BK305.out) hb)
               have n3_ := Aside0.mk (below_step (by repeat (first | (with_reducible first | exact HB.out | apply below_alloc | apply pw_below_drewN | apply below_drew1 | refine below_set ?_ GE296.out | refine below_set ?_ GE297.out | refine below_set ?_ GE305.out) | exact HB.out)) hb)
               clear BK296
               clear BK297
               clear BK305
               clear HB
               have BK296 := n0_
               have BK297 := n1_
               have BK305 := n2_
               have HB := n3_
               clear n0_ n1_ n2_ n3_
               (try clear hb)
               (try clear hb2)
               (try clear hk)
               (try clear hi)
               refine hK.out _ _ ⟨(blk_cell BK297.out 0).trans rfl, (blk_cell BK297.out 1).trans rfl, (blk_cell BK297.out 2).trans rfl, (blk_cell BK297.out 3).trans rfl, (blk_cell BK296.out 0).trans rfl, (blk_cell BK296.out 1).trans rfl, (blk_cell BK296.out 2).trans rfl, (blk_cell BK296.out 3).trans rfl, (blk_cell BK296.out 4).trans rfl, (blk_cell BK296.out 5).trans rfl, (blk_cell BK296.out 6).trans rfl, (blk_cell BK296.out 7).trans rfl⟩ (fun hHeld => ?_)
               clear hK K
               refine norm_ (a' := ?_) ?_ ?_
               rotate_left
               ·show Act.put _ (some 76) _ = _
                simp only [Act.put, List.setIfInBounds_toArray, List.set_cons_zero, List.set_cons_succ, i64_w, i32_w]
                rfl
               refine pure_ (i := 16) (N := some 79) (v := ?_) (a' := ?_) #[true, true, true, true, true, true, true, true, true, true, true, true, true, true, true, true, true, false, false, false, false, false, false, false, false] rfl rfl (any_of HT_.out (by kernel_rfl)) (fun _ _ _ h => h) (Or.inl ⟨by rfl, ?_⟩) ?_ ?_
               rotate_left
               ·intro w'
                go_simp
                with_reducible rfl
               rotate_left
               ·simp only [Act.put, List.setIfInBounds_toArray, List.set_cons_zero, List.set_cons_succ, i64_w, i32_w]
                rfl
               refine pure_ (i := 17) (N := some 80) (v := ?_) (a' := ?_) #[true, true, true, true, true, true, true, true, true, true, true, true, true, true, true, true, true, true, false, false, false, false, false, false, false] rfl rfl (any_of HT_.out (by kernel_rfl)) (fun _ _ _ h => h) (Or.inl ⟨by rfl, ?_⟩) ?_ ?_
               rotate_left
               ·intro w'
                go_simp
                with_reducible rfl
               rotate_left
               ·simp only [Act.put, List.setIfInBounds_toArray, List.set_cons_zero, List.set_cons_succ, i64_w, i32_w]
                rfl
               refine pure_ (i := 18) (N := some 81) (v := ?_) (a' := ?_) #[true, true, true, true, true, true, true, true, true, true, true, true, true, true, true, true, true, true, true, false, false, false, false, false, false] rfl rfl (any_of HT_.out (by kernel_rfl)) (fun _ _ _ h => h) (Or.inl ⟨by rfl, ?_⟩) ?_ ?_
               rotate_left
               ·intro w'
                go_simp
                with_reducible rfl
               rotate_left
               ·simp only [Act.put, List.setIfInBounds_toArray, List.set_cons_zero, List.set_cons_succ, i64_w, i32_w]
                rfl
               refine take_ (i := 19) (N := some 82) (v := ?_) (a' := ?_) #[true, true, true, true, true, true, true, true, true, true, true, true, true, true, true, true, true, true, true, true, false, false, false, false, false] rfl rfl (take_ofW HT_.out HW_.out (by kernel_rfl)) (fun _ _ _ h => h) (Or.inl ⟨by rfl, ?_⟩) hHeld ?_ ?_
               rotate_left
               ·rintro w' ⟨s0, s1, s2, s3, s4, s5, s6, s7, s8, s9, s10, s11⟩
                go_simp
                with_reducible rfl
               rotate_left
               ·simp only [Act.put, List.setIfInBounds_toArray, List.set_cons_zero, List.set_cons_succ, i64_w, i32_w]
                rfl
               refine pure_ (i := 20) (N := some 83) (v := ?_) (a' := ?_) #[true, true, true, true, true, true, true, true, true, true, true, true, true, true, true, true, true, true, true, true, true, false, false, false, false] rfl rfl (any_of HT_.out (by kernel_rfl)) (fun _ _ _ h => h) (Or.inl ⟨by rfl, ?_⟩) ?_ ?_
               rotate_left
               ·intro w'
                go_simp
                with_reducible rfl
               rotate_left
               ·simp only [Act.put, List.setIfInBounds_toArray, List.set_cons_zero, List.set_cons_succ, i64_w, i32_w]
                rfl
               refine pure_ (i := 21) (N := some 84) (v := ?_) (a' := ?_) #[true, true, true, true, true, true, true, true, true, true, true, true, true, true, true, true, true, true, true, true, true, true, false, false, false] rfl rfl (any_of HT_.out (by kernel_rfl)) (fun _ _ _ h => h) (Or.inl ⟨by rfl, ?_⟩) ?_ ?_
               rotate_left
               ·intro w'
                go_simp
                with_reducible rfl
               rotate_left
               ·simp only [Act.put, List.setIfInBounds_toArray, List.set_cons_zero, List.set_cons_succ, i64_w, i32_w]
                rfl
               refine pure_ (i := 22) (N := some 85) (v := ?_) (a' := ?_) #[true, true, true, true, true, true, true, true, true, true, true, true, true, true, true, true, true, true, true, true, true, true, true, false, false] rfl rfl (any_of HT_.out (by kernel_rfl)) (fun _ _ _ h => h) (Or.inl ⟨by rfl, ?_⟩) ?_ ?_
               rotate_left
               ·intro w'
                go_simp
                with_reducible rfl
               rotate_left
               ·simp only [Act.put, List.setIfInBounds_toArray, List.set_cons_zero, List.set_cons_succ, i64_w, i32_w]
                rfl
               refine pure_ (i := 23) (N := some 86) (v := ?_) (a' := ?_) #[true, true, true, true, true, true, true, true, true, true, true, true, true, true, true, true, true, true, true, true, true, true, true, true, false] rfl rfl (any_of HT_.out (by kernel_rfl)) (fun _ _ _ h => h) (Or.inl ⟨by rfl, ?_⟩) ?_ ?_
               rotate_left
               ·intro w'
                go_simp
                with_reducible rfl
               rotate_left
               ·simp only [Act.put, List.setIfInBounds_toArray, List.set_cons_zero, List.set_cons_succ, i64_w, i32_w]
                rfl
               refine pure_ (i := 24) (N := some 7) (v := ?_) (a' := ?_) #[true, true, true, true, true, true, true, true, true, true, true, true, true, true, true, true, true, true, true, true, true, true, true, true, true] rfl rfl (any_of HT_.out (by kernel_rfl)) (fun _ _ _ h => h) (Or.inl ⟨by rfl, ?_⟩) ?_ ?_
               rotate_left
               ·intro w'
                go_simp
                with_reducible rfl
               rotate_left
               ·simp only [Act.put, List.setIfInBounds_toArray, List.set_cons_zero, List.set_cons_succ, i64_w, i32_w]
                rfl
               refine done_ (done_of HT_.out (by kernel_rfl)) ?_
               try go_wp2
               go_roundg kj21
               case measure => have := HJ5.out; have := HK2.out; have := HJ21.out; omega
               case rel => exact ⟨((t300 == 5)), (true), (wrap64 (x10_2 + 1)), (t300), (t301), (t302), (t303), (by first | rfl | (simp; done) | (simp [*]; done)), (by first | rfl | (simp; done) | (simp [*]; done)), (by first | rfl | (simp; done) | (simp [*]; done)), H', ⟨by have := HJ5.out; have := HK2.out; have := HJ21.out; omega⟩, ⟨by (with_reducible repeat (first | refine blk_drewN ?_ _ | refine blk_drew ?_ | refine blk_alloc ?_ _)); exact BK296.out⟩, ⟨by (with_reducible repeat (first | refine blk_drewN ?_ _ | refine blk_drew ?_ | refine blk_alloc ?_ _)); exact BK297.out⟩, ⟨by repeat (first | (with_reducible first | exact HB.out | apply below_alloc | apply pw_below_drewN | apply below_drew1 | refine below_set ?_ GE296.out | refine below_set ?_ GE297.out | refine below_set ?_ GE305.out) | exact HB.out)⟩⟩
              ·rw [if_neg c37] at H
               have c37b0 : (t308 == a0_4) = false := beq_eq_false_iff_ne.mpr c37
               have c37b1 : (t308 != a0_4) = true := bne_iff_ne.mpr c37
               have H' := Aside0.mk H
               clear H
               have hnb46 := NB305_296.out
               have hnc46 := NB296_305.out
               have hnb47 := NB305_297.out
               have hnc47 := NB297_305.out
               have hcz48_0 : wc.cell? ⟨gb305, 0, none⟩ = some (.int .i64 t300) := (blk_cell BK305.out 0).trans rfl
               have hcz48_1 : wc.cell? ⟨gb305, 1, none⟩ = some (.int .i64 t301) := (blk_cell BK305.out 1).trans rfl
               have hcz48_2 : wc.cell? ⟨gb305, 2, none⟩ = some (.int .i64 t302) := (blk_cell BK305.out 2).trans rfl
               have hcz48_3 : wc.cell? ⟨gb305, 3, none⟩ = some (.bool t303) := (blk_cell BK305.out 3).trans rfl
               have hfz48_0 := blk_frozen BK305.out 0
               have hfz48_1 := blk_frozen BK305.out 1
               have hfz48_2 := blk_frozen BK305.out 2
               have hfz48_3 := blk_frozen BK305.out 3
               have hnb49 := NB297_296.out
               have hnc49 := NB296_297.out
               have hcz50_0 : wc.cell? ⟨gb297, 0, none⟩ = some (.int .i64 x298000_2) := (blk_cell BK297.out 0).trans rfl
               have hcz50_1 : wc.cell? ⟨gb297, 1, none⟩ = some (.int .i64 x298001_2) := (blk_cell BK297.out 1).trans rfl
               have hcz50_2 : wc.cell? ⟨gb297, 2, none⟩ = some (.int .i64 x298002_2) := (blk_cell BK297.out 2).trans rfl
               have hcz50_3 : wc.cell? ⟨gb297, 3, none⟩ = some (.bool x298003_2) := (blk_cell BK297.out 3).trans rfl
               have hfz50_0 := blk_frozen BK297.out 0
               have hfz50_1 := blk_frozen BK297.out 1
               have hfz50_2 := blk_frozen BK297.out 2
               have hfz50_3 := blk_frozen BK297.out 3
               try go_wp2
               have n0_ : Aside0 (((((wc.setCell ⟨gb297, 0, none⟩ (.int .i64 t300)).setCell ⟨gb297, 1, none⟩ (.int .i64 t301)).setCell ⟨gb297, 2, none⟩ (.int .i64 t302)).setCell ⟨gb297, 3, none⟩ (.bool t303)).heap[gb296]? = some (.cells #[.string a0_0, .int .i64 a0_1, .int .i64 a0_2, .int .i64 a0_3, .int .i64 a0_4, .int .i64 a0_5, .int .i64 a0_6, .int .i64 a0_7] 23 (0, 0))) := ⟨by (with_reducible repeat (first | refine blk_drewN ?_ _ | refine blk_drew ?_ | refine blk_alloc ?_ _)); refine blk_far ?_ NB296_297.out _; (with_reducible repeat (first | refine blk_drewN ?_ _ | refine blk_drew ?_ | refine blk_alloc ?_ _)); refine blk_far ?_ NB296_297.out _; (with_reducible repeat (first | refine blk_drewN ?_ _ | refine blk_drew ?_ | refine blk_alloc ?_ _)); refine blk_far ?_ NB296_297.out _; (with_reducible repeat (first | refine blk_drewN ?_ _ | refine blk_drew ?_ | refine blk_alloc ?_ _)); refine blk_far ?_ NB296_297.out _; (with_reducible repeat (first | refine blk_drewN ?_ _ | refine blk_drew ?_ | refine blk_alloc ?_ _)); exact BK296.out⟩
               have n1_ : Aside0 (((((wc.setCell ⟨gb297, 0, none⟩ (.int .i64 t300)).setCell ⟨gb297, 1, none⟩ (.int .i64 t301)).setCell ⟨gb297, 2, none⟩ (.int .i64 t302)).setCell ⟨gb297, 3, none⟩ (.bool t303)).heap[gb297]? = some (.cells #[.int .i64 t300, .int .i64 t301, .int .i64 t302, .bool t303] 25 (0, 0))) := ⟨by (with_reducible repeat (first | refine blk_drewN ?_ _ | refine blk_drew ?_ | refine blk_alloc ?_ _)); refine blk_put (cs := #[.int .i64 t300, .int .i64 t301, .int .i64 t302, .bool x298003_2]) ?_ 3 _ rfl; (with_reducible repeat (first | refine blk_drewN ?_ _ | refine blk_drew ?_ | refine blk_alloc ?_ _)); refine blk_put (cs := #[.int .i64 t300, .int .i64 t301, .int .i64 x298002_2, .bool x298003_2]) ?_ 2 _ rfl; (with_reducible repeat (first | refine blk_drewN ?_ _ | refine blk_drew ?_ | refine blk_alloc ?_ _)); refine blk_put (cs := #[.int .i64 t300, .int .i64 x298001_2, .int .i64 x298002_2, .bool x298003_2]) ?_ 1 _ rfl; (with_reducible repeat (first | refine blk_drewN ?_ _ | refine blk_drew ?_ | refine blk_alloc ?_ _)); refine blk_put (cs := #[.int .i64 x298000_2, .int .i64 x298001_2, .int .i64 x298002_2, .bool x298003_2]) ?_ 0 _ rfl; (with_reducible repeat (first | refine blk_drewN ?_ _ | refine blk_drew ?_ | refine blk_alloc ?_ _)); exact BK297.out⟩
               have n2_ : Aside0 (((((wc.setCell ⟨gb297, 0, none⟩ (.int .i64 t300)).setCell ⟨gb297, 1, none⟩ (.int .i64 t301)).setCell ⟨gb297, 2, none⟩ (.int .i64 t302)).setCell ⟨gb297, 3, none⟩ (.bool t303)).heap[gb305]? = some (.cells #[.int .i64 t300, .int .i64 t301, .int .i64 t302, .bool t303] 25 (0, 0))) := ⟨by (with_reducible repeat (first | refine blk_drewN ?_ _ | refine blk_drew ?_ | refine blk_alloc ?_ _)); refine blk_far ?_ NB305_297.out _; (with_reducible repeat (first | refine blk_drewN ?_ _ | refine blk_drew ?_ | refine blk_alloc ?_ _)); refine blk_far ?_ NB305_297.out _; (with_reducible repeat (first | refine blk_drewN ?_ _ | refine blk_drew ?_ | refine blk_alloc ?_ _)); refine blk_far ?_ NB305_297.out _; (with_reducible repeat (first | refine blk_drewN ?_ _ | refine blk_drew ?_ | refine blk_alloc ?_ _)); refine blk_far ?_ NB305_297.out _; (with_reducible repeat (first | refine blk_drewN ?_ _ | refine blk_drew ?_ | refine blk_alloc ?_ _)); exact BK305.out⟩
               have n3_ : Aside0 (Below w.heap.size w ((((wc.setCell ⟨gb297, 0, none⟩ (.int .i64 t300)).setCell ⟨gb297, 1, none⟩ (.int .i64 t301)).setCell ⟨gb297, 2, none⟩ (.int .i64 t302)).setCell ⟨gb297, 3, none⟩ (.bool t303))) := ⟨by repeat (first | (with_reducible first | exact HB.out | apply below_alloc | apply pw_below_drewN | apply below_drew1 | refine below_set ?_ GE296.out | refine below_set ?_ GE297.out | refine below_set ?_ GE305.out) | exact HB.out)⟩
               (try clear BK296)
               (try clear BK297)
               (try clear BK305)
               (try clear HB)
               generalize ((((wc.setCell ⟨gb297, 0, none⟩ (.int .i64 t300)).setCell ⟨gb297, 1, none⟩ (.int .i64 t301)).setCell ⟨gb297, 2, none⟩ (.int .i64 t302)).setCell ⟨gb297, 3, none⟩ (.bool t303)) = w51 at n0_ n1_ n2_ n3_ ⊢
               have BK296 := n0_
               have BK297 := n1_
               have BK305 := n2_
               have HB := n3_
               clear n0_ n1_ n2_ n3_
               have n0_ := Aside0.mk (blk_drew BK296.out)
               have n1_ := Aside0.mk (blk_drew BK297.out)
               have n2_ := Aside0.mk (blk_drew BK305.out)
               have n3_ := Aside0.mk (below_drew1 HB.out)
               clear BK296
               clear BK297
               clear BK305
               clear HB
               have BK296 := n0_
               have BK297 := n1_
               have BK305 := n2_
               have HB := n3_
               clear n0_ n1_ n2_ n3_
               refine start_ (n := 25) (S := fun w' => w'.cell? ⟨gb297, 0, none⟩ = some (.int .i64 t300) ∧ w'.cell? ⟨gb297, 1, none⟩ = some (.int .i64 t301) ∧ w'.cell? ⟨gb297, 2, none⟩ = some (.int .i64 t302) ∧ w'.cell? ⟨gb297, 3, none⟩ = some (.bool t303) ∧ w'.cell? ⟨gb296, 0, none⟩ = some (.string a0_0) ∧ w'.cell? ⟨gb296, 1, none⟩ = some (.int .i64 a0_1) ∧ w'.cell? ⟨gb296, 2, none⟩ = some (.int .i64 a0_2) ∧ w'.cell? ⟨gb296, 3, none⟩ = some (.int .i64 a0_3) ∧ w'.cell? ⟨gb296, 4, none⟩ = some (.int .i64 a0_4) ∧ w'.cell? ⟨gb296, 5, none⟩ = some (.int .i64 a0_5) ∧ w'.cell? ⟨gb296, 6, none⟩ = some (.int .i64 a0_6) ∧ w'.cell? ⟨gb296, 7, none⟩ = some (.int .i64 a0_7)) (ds := []) #[false, false, false, false, false, false, false, false, false, false, false, false, false, false, false, false, false, false, false, false, false, false, false, false, false] (by kernel_rfl) rfl rfl ⟨(blk_cell BK297.out 0).trans rfl, (blk_cell BK297.out 1).trans rfl, (blk_cell BK297.out 2).trans rfl, (blk_cell BK297.out 3).trans rfl, (blk_cell BK296.out 0).trans rfl, (blk_cell BK296.out 1).trans rfl, (blk_cell BK296.out 2).trans rfl, (blk_cell BK296.out 3).trans rfl, (blk_cell BK296.out 4).trans rfl, (blk_cell BK296.out 5).trans rfl, (blk_cell BK296.out 6).trans rfl, (blk_cell BK296.out 7).trans rfl⟩ (fun hHeld => ?_); refine with_tabW chargeparklaw12_ChargerWelded.tab13 chargeparklaw12_ChargerWelded.bits13 (fun HT_ HW_ => ?_)
               generalize w51.drew = w52 at BK296 BK297 BK305 HB hHeld ⊢
               refine pure_ (i := 0) (N := some 63) (v := ?_) (a' := ?_) #[true, false, false, false, false, false, false, false, false, false, false, false, false, false, false, false, false, false, false, false, false, false, false, false, false] rfl rfl (any_of HT_.out (by kernel_rfl)) (fun _ _ _ h => h) (Or.inl ⟨by rfl, ?_⟩) ?_ ?_
               rotate_left
               ·intro w'
                go_simp
                with_reducible rfl
               rotate_left
               ·simp only [Act.put, List.setIfInBounds_toArray, List.set_cons_zero, List.set_cons_succ, i64_w, i32_w]
                rfl
               refine pure_ (i := 1) (N := some 64) (v := ?_) (a' := ?_) #[true, true, false, false, false, false, false, false, false, false, false, false, false, false, false, false, false, false, false, false, false, false, false, false, false] rfl rfl (any_of HT_.out (by kernel_rfl)) (fun _ _ _ h => h) (Or.inl ⟨by rfl, ?_⟩) ?_ ?_
               rotate_left
               ·intro w'
                go_simp
                with_reducible rfl
               rotate_left
               ·simp only [Act.put, List.setIfInBounds_toArray, List.set_cons_zero, List.set_cons_succ, i64_w, i32_w]
                rfl
               refine pure_ (i := 2) (N := some 65) (v := ?_) (a' := ?_) #[true, true, true, false, false, false, false, false, false, false, false, false, false, false, false, false, false, false, false, false, false, false, false, false, false] rfl rfl (any_of HT_.out (by kernel_rfl)) (fun _ _ _ h => h) (Or.inl ⟨by rfl, ?_⟩) ?_ ?_
               rotate_left
               ·intro w'
                go_simp
                with_reducible rfl
               rotate_left
               ·simp only [Act.put, List.setIfInBounds_toArray, List.set_cons_zero, List.set_cons_succ, i64_w, i32_w]
                rfl
               refine pure_ (i := 4) (N := some 67) (v := ?_) (a' := ?_) #[true, true, true, false, true, false, false, false, false, false, false, false, false, false, false, false, false, false, false, false, false, false, false, false, false] rfl rfl (any_of HT_.out (by kernel_rfl)) (fun _ _ _ h => h) (Or.inl ⟨by rfl, ?_⟩) ?_ ?_
               rotate_left
               ·intro w'
                go_simp
                with_reducible rfl
               rotate_left
               ·simp only [Act.put, List.setIfInBounds_toArray, List.set_cons_zero, List.set_cons_succ, i64_w, i32_w]
                rfl
               refine take_ (i := 3) (N := some 66) (v := ?_) (a' := ?_) #[true, true, true, true, true, false, false, false, false, false, false, false, false, false, false, false, false, false, false, false, false, false, false, false, false] rfl rfl (take_ofW HT_.out HW_.out (by kernel_rfl)) (fun _ _ _ h => h) (Or.inl ⟨by rfl, ?_⟩) hHeld ?_ ?_
               rotate_left
               ·rintro w' ⟨s0, s1, s2, s3, s4, s5, s6, s7, s8, s9, s10, s11⟩
                go_simp
                with_reducible rfl
               rotate_left
               ·simp only [Act.put, List.setIfInBounds_toArray, List.set_cons_zero, List.set_cons_succ, i64_w, i32_w]
                rfl
               refine pure_ (i := 5) (N := some 68) (v := ?_) (a' := ?_) #[true, true, true, true, true, true, false, false, false, false, false, false, false, false, false, false, false, false, false, false, false, false, false, false, false] rfl rfl (any_of HT_.out (by kernel_rfl)) (fun _ _ _ h => h) (Or.inl ⟨by rfl, ?_⟩) ?_ ?_
               rotate_left
               ·intro w'
                go_simp
                with_reducible rfl
               rotate_left
               ·simp only [Act.put, List.setIfInBounds_toArray, List.set_cons_zero, List.set_cons_succ, i64_w, i32_w]
                rfl
               refine pure_ (i := 6) (N := some 69) (v := ?_) (a' := ?_) #[true, true, true, true, true, true, true, false, false, false, false, false, false, false, false, false, false, false, false, false, false, false, false, false, false] rfl rfl (any_of HT_.out (by kernel_rfl)) (fun _ _ _ h => h) (Or.inl ⟨by rfl, ?_⟩) ?_ ?_
               rotate_left
               ·intro w'
                go_simp
                with_reducible rfl
               rotate_left
               ·simp only [Act.put, List.setIfInBounds_toArray, List.set_cons_zero, List.set_cons_succ, i64_w, i32_w]
                rfl
               refine pure_ (i := 7) (N := some 70) (v := ?_) (a' := ?_) #[true, true, true, true, true, true, true, true, false, false, false, false, false, false, false, false, false, false, false, false, false, false, false, false, false] rfl rfl (any_of HT_.out (by kernel_rfl)) (fun _ _ _ h => h) (Or.inl ⟨by rfl, ?_⟩) ?_ ?_
               rotate_left
               ·intro w'
                go_simp
                with_reducible rfl
               rotate_left
               ·simp only [Act.put, List.setIfInBounds_toArray, List.set_cons_zero, List.set_cons_succ, i64_w, i32_w]
                rfl
               refine pure_ (i := 8) (N := some 71) (v := ?_) (a' := ?_) #[true, true, true, true, true, true, true, true, true, false, false, false, false, false, false, false, false, false, false, false, false, false, false, false, false] rfl rfl (any_of HT_.out (by kernel_rfl)) (fun _ _ _ h => h) (Or.inl ⟨by rfl, ?_⟩) ?_ ?_
               rotate_left
               ·intro w'
                go_simp
                with_reducible rfl
               rotate_left
               ·simp only [Act.put, List.setIfInBounds_toArray, List.set_cons_zero, List.set_cons_succ, i64_w, i32_w]
                rfl
               refine pure_ (i := 9) (N := some 72) (v := ?_) (a' := ?_) #[true, true, true, true, true, true, true, true, true, true, false, false, false, false, false, false, false, false, false, false, false, false, false, false, false] rfl rfl (any_of HT_.out (by kernel_rfl)) (fun _ _ _ h => h) (Or.inl ⟨by rfl, ?_⟩) ?_ ?_
               rotate_left
               ·intro w'
                go_simp
                with_reducible rfl
               rotate_left
               ·simp only [Act.put, List.setIfInBounds_toArray, List.set_cons_zero, List.set_cons_succ, i64_w, i32_w]
                rfl
               refine pure_ (i := 10) (N := some 73) (v := ?_) (a' := ?_) #[true, true, true, true, true, true, true, true, true, true, true, false, false, false, false, false, false, false, false, false, false, false, false, false, false] rfl rfl (any_of HT_.out (by kernel_rfl)) (fun _ _ _ h => h) (Or.inl ⟨by rfl, ?_⟩) ?_ ?_
               rotate_left
               ·intro w'
                go_simp
                with_reducible rfl
               rotate_left
               ·simp only [Act.put, List.setIfInBounds_toArray, List.set_cons_zero, List.set_cons_succ, i64_w, i32_w]
                rfl
               refine pure_ (i := 14) (N := some 77) (v := ?_) (a' := ?_) #[true, true, true, true, true, true, true, true, true, true, true, false, false, false, true, false, false, false, false, false, false, false, false, false, false] rfl rfl (any_of HT_.out (by kernel_rfl)) (fun _ _ _ h => h) (Or.inl ⟨by rfl, ?_⟩) ?_ ?_
               rotate_left
               ·intro w'
                go_simp
                with_reducible rfl
               rotate_left
               ·simp only [Act.put, List.setIfInBounds_toArray, List.set_cons_zero, List.set_cons_succ, i64_w, i32_w]
                rfl
               refine take_ (i := 11) (N := some 74) (v := ?_) (a' := ?_) #[true, true, true, true, true, true, true, true, true, true, true, true, false, false, true, false, false, false, false, false, false, false, false, false, false] rfl rfl (take_ofW HT_.out HW_.out (by kernel_rfl)) (fun _ _ _ h => h) (Or.inl ⟨by rfl, ?_⟩) hHeld ?_ ?_
               rotate_left
               ·rintro w' ⟨s0, s1, s2, s3, s4, s5, s6, s7, s8, s9, s10, s11⟩
                go_simp
                with_reducible rfl
               rotate_left
               ·simp only [Act.put, List.setIfInBounds_toArray, List.set_cons_zero, List.set_cons_succ, i64_w, i32_w]
                rfl
               refine take_ (i := 12) (N := some 75) (v := ?_) (a' := ?_) #[true, true, true, true, true, true, true, true, true, true, true, true, true, false, true, false, false, false, false, false, false, false, false, false, false] rfl rfl (take_ofW HT_.out HW_.out (by kernel_rfl)) (fun _ _ _ h => h) (Or.inl ⟨by rfl, ?_⟩) hHeld ?_ ?_
               rotate_left
               ·rintro w' ⟨s0, s1, s2, s3, s4, s5, s6, s7, s8, s9, s10, s11⟩
                go_simp
                with_reducible rfl
               rotate_left
               ·simp only [Act.put, List.setIfInBounds_toArray, List.set_cons_zero, List.set_cons_succ, i64_w, i32_w]
                rfl
               refine take_ (i := 15) (N := some 78) (v := ?_) (a' := ?_) #[true, true, true, true, true, true, true, true, true, true, true, true, true, false, true, true, false, false, false, false, false, false, false, false, false] rfl rfl (take_ofW HT_.out HW_.out (by kernel_rfl)) (fun _ _ _ h => h) (Or.inl ⟨by rfl, ?_⟩) hHeld ?_ ?_
               rotate_left
               ·rintro w' ⟨s0, s1, s2, s3, s4, s5, s6, s7, s8, s9, s10, s11⟩
                go_simp
                with_reducible rfl
               rotate_left
               ·simp only [Act.put, List.setIfInBounds_toArray, List.set_cons_zero, List.set_cons_succ, i64_w, i32_w]
                rfl
               refine one_ (i := 13) (N := some 76) #[true, true, true, true, true, true, true, true, true, true, true, true, true, true, true, true, false, false, false, false, false, false, false, false, false] rfl rfl (one_of HT_.out (by kernel_rfl)) (by decide) (fun K hK => ?_)
               refine goes_ Tryd.func15 (by kernel_rfl) rfl #[.agg #[.string a0_0, .int .i64 a0_1, .int .i64 a0_2, .int .i64 a0_3, .int .i64 a0_4, .int .i64 a0_5, .int .i64 a0_6, .int .i64 a0_7], .agg #[.int .i64 t300, .int .i64 t301, .int .i64 t302, .bool t303]] (by rfl) rfl rfl (by (try simp only [List.map_toArray, List.map_cons, List.map_nil]); first | done | rfl | (simp only [List.length_drop, List.length_take]; rfl)) ?_
               with_reducible refine (charger_Allowed.calls a0_0 a0_1 a0_2 a0_3 a0_4 a0_5 a0_6 a0_7 t300 t301 t302 t303 t308 _ A36.out).mono ?_
               rintro e w53 ⟨rfl, hb⟩
               refine ⟨_, rfl, ?_⟩
               have n0_ := Aside0.mk (blk_below (g := gb296) (o := .cells #[.string a0_0, .int .i64 a0_1, .int .i64 a0_2, .int .i64 a0_3, .int .i64 a0_4, .int .i64 a0_5, .int .i64 a0_6, .int .i64 a0_7] 23 (0, 0)) (by (with_reducible repeat (first | refine blk_drewN ?_ _ | refine blk_drew ?_ | refine blk_alloc ?_ _)); exact BK296.out) hb)
               have n1_ := Aside0.mk (blk_below (g := gb297) (o := .cells #[.int .i64 t300, .int .i64 t301, .int .i64 t302, .bool t303] 25 (0, 0)) (by (with_reducible repeat (first | refine blk_drewN ?_ _ | refine blk_drew ?_ | refine blk_alloc ?_ _)); exact BK297.out) hb)
               have n2_ := Aside0.mk (blk_below (g := gb305) (o := .cells #[.int .i64 t300, .int .i64 t301, .int .i64 t302, .bool t303] 25 (0, 0)) (by (with_reducible repeat (first | refine blk_drewN ?_ _ | refine blk_drew ?_ | refine blk_alloc ?_ _)); exact BK305.out) hb)
               have n3_ := Aside0.mk (below_step (by repeat (first | (with_reducible first | exact HB.out | apply below_alloc | apply pw_below_drewN | apply below_drew1 | refine below_set ?_ GE296.out | refine below_set ?_ GE297.out | refine below_set ?_ GE305.out) | exact HB.out)) hb)
               clear BK296
               clear BK297
               clear BK305
               clear HB
               have BK296 := n0_
               have BK297 := n1_
               have BK305 := n2_
               have HB := n3_
               clear n0_ n1_ n2_ n3_
               (try clear hb)
               (try clear hb2)
               (try clear hk)
               (try clear hi)
               refine hK.out _ _ ⟨(blk_cell BK297.out 0).trans rfl, (blk_cell BK297.out 1).trans rfl, (blk_cell BK297.out 2).trans rfl, (blk_cell BK297.out 3).trans rfl, (blk_cell BK296.out 0).trans rfl, (blk_cell BK296.out 1).trans rfl, (blk_cell BK296.out 2).trans rfl, (blk_cell BK296.out 3).trans rfl, (blk_cell BK296.out 4).trans rfl, (blk_cell BK296.out 5).trans rfl, (blk_cell BK296.out 6).trans rfl, (blk_cell BK296.out 7).trans rfl⟩ (fun hHeld => ?_)
               clear hK K
               refine norm_ (a' := ?_) ?_ ?_
               rotate_left
               ·show Act.put _ (some 76) _ = _
                simp only [Act.put, List.setIfInBounds_toArray, List.set_cons_zero, List.set_cons_succ, i64_w, i32_w]
                rfl
               refine pure_ (i := 16) (N := some 79) (v := ?_) (a' := ?_) #[true, true, true, true, true, true, true, true, true, true, true, true, true, true, true, true, true, false, false, false, false, false, false, false, false] rfl rfl (any_of HT_.out (by kernel_rfl)) (fun _ _ _ h => h) (Or.inl ⟨by rfl, ?_⟩) ?_ ?_
               rotate_left
               ·intro w'
                go_simp
                with_reducible rfl
               rotate_left
               ·simp only [Act.put, List.setIfInBounds_toArray, List.set_cons_zero, List.set_cons_succ, i64_w, i32_w]
                rfl
               refine pure_ (i := 17) (N := some 80) (v := ?_) (a' := ?_) #[true, true, true, true, true, true, true, true, true, true, true, true, true, true, true, true, true, true, false, false, false, false, false, false, false] rfl rfl (any_of HT_.out (by kernel_rfl)) (fun _ _ _ h => h) (Or.inl ⟨by rfl, ?_⟩) ?_ ?_
               rotate_left
               ·intro w'
                go_simp
                with_reducible rfl
               rotate_left
               ·simp only [Act.put, List.setIfInBounds_toArray, List.set_cons_zero, List.set_cons_succ, i64_w, i32_w]
                rfl
               refine pure_ (i := 18) (N := some 81) (v := undef) (a' := ?_) #[true, true, true, true, true, true, true, true, true, true, true, true, true, true, true, true, true, true, true, false, false, false, false, false, false] rfl rfl (any_of HT_.out (by kernel_rfl)) (fun _ _ _ h => h) (Or.inr ⟨by rfl, rfl⟩) ?_ ?_
               rotate_left
               ·simp only [Act.put, List.setIfInBounds_toArray, List.set_cons_zero, List.set_cons_succ, i64_w, i32_w]
                rfl
               refine pure_ (i := 19) (N := some 82) (v := undef) (a' := ?_) #[true, true, true, true, true, true, true, true, true, true, true, true, true, true, true, true, true, true, true, true, false, false, false, false, false] rfl rfl (any_of HT_.out (by kernel_rfl)) (fun _ _ _ h => h) (Or.inr ⟨by rfl, rfl⟩) ?_ ?_
               rotate_left
               ·simp only [Act.put, List.setIfInBounds_toArray, List.set_cons_zero, List.set_cons_succ, i64_w, i32_w]
                rfl
               refine pure_ (i := 20) (N := some 83) (v := undef) (a' := ?_) #[true, true, true, true, true, true, true, true, true, true, true, true, true, true, true, true, true, true, true, true, true, false, false, false, false] rfl rfl (any_of HT_.out (by kernel_rfl)) (fun _ _ _ h => h) (Or.inr ⟨by rfl, rfl⟩) ?_ ?_
               rotate_left
               ·simp only [Act.put, List.setIfInBounds_toArray, List.set_cons_zero, List.set_cons_succ, i64_w, i32_w]
                rfl
               refine pure_ (i := 21) (N := some 84) (v := ?_) (a' := ?_) #[true, true, true, true, true, true, true, true, true, true, true, true, true, true, true, true, true, true, true, true, true, true, false, false, false] rfl rfl (any_of HT_.out (by kernel_rfl)) (fun _ _ _ h => h) (Or.inl ⟨by rfl, ?_⟩) ?_ ?_
               rotate_left
               ·intro w'
                go_simp
                with_reducible rfl
               rotate_left
               ·simp only [Act.put, List.setIfInBounds_toArray, List.set_cons_zero, List.set_cons_succ, i64_w, i32_w]
                rfl
               refine pure_ (i := 22) (N := some 85) (v := ?_) (a' := ?_) #[true, true, true, true, true, true, true, true, true, true, true, true, true, true, true, true, true, true, true, true, true, true, true, false, false] rfl rfl (any_of HT_.out (by kernel_rfl)) (fun _ _ _ h => h) (Or.inl ⟨by rfl, ?_⟩) ?_ ?_
               rotate_left
               ·intro w'
                go_simp
                with_reducible rfl
               rotate_left
               ·simp only [Act.put, List.setIfInBounds_toArray, List.set_cons_zero, List.set_cons_succ, i64_w, i32_w]
                rfl
               refine pure_ (i := 23) (N := some 86) (v := ?_) (a' := ?_) #[true, true, true, true, true, true, true, true, true, true, true, true, true, true, true, true, true, true, true, true, true, true, true, true, false] rfl rfl (any_of HT_.out (by kernel_rfl)) (fun _ _ _ h => h) (Or.inl ⟨by rfl, ?_⟩) ?_ ?_
               rotate_left
               ·intro w'
                go_simp
                with_reducible rfl
               rotate_left
               ·simp only [Act.put, List.setIfInBounds_toArray, List.set_cons_zero, List.set_cons_succ, i64_w, i32_w]
                rfl
               refine pure_ (i := 24) (N := some 7) (v := ?_) (a' := ?_) #[true, true, true, true, true, true, true, true, true, true, true, true, true, true, true, true, true, true, true, true, true, true, true, true, true] rfl rfl (any_of HT_.out (by kernel_rfl)) (fun _ _ _ h => h) (Or.inl ⟨by rfl, ?_⟩) ?_ ?_
               rotate_left
               ·intro w'
                go_simp
                with_reducible rfl
               rotate_left
               ·simp only [Act.put, List.setIfInBounds_toArray, List.set_cons_zero, List.set_cons_succ, i64_w, i32_w]
                rfl
               refine done_ (done_of HT_.out (by kernel_rfl)) ?_
               try go_wp2
               go_roundg kj21
               case measure => have := HJ5.out; have := HK2.out; have := HJ21.out; omega
               case rel => exact ⟨(false), (true), (wrap64 (x10_2 + 1)), (t300), (t301), (t302), (t303), (by first | rfl | (simp; done) | (simp [*]; done)), (by first | rfl | (simp; done) | (simp [*]; done)), (by first | rfl | (simp; done) | (simp [*]; done)), H', ⟨by have := HJ5.out; have := HK2.out; have := HJ21.out; omega⟩, ⟨by (with_reducible repeat (first | refine blk_drewN ?_ _ | refine blk_drew ?_ | refine blk_alloc ?_ _)); exact BK296.out⟩, ⟨by (with_reducible repeat (first | refine blk_drewN ?_ _ | refine blk_drew ?_ | refine blk_alloc ?_ _)); exact BK297.out⟩, ⟨by repeat (first | (with_reducible first | exact HB.out | apply below_alloc | apply pw_below_drewN | apply below_drew1 | refine below_set ?_ GE296.out | refine below_set ?_ GE297.out | refine below_set ?_ GE305.out) | exact HB.out)⟩⟩
             ·replace c35 := Bool.eq_false_iff.mpr c35
              subst c35
              have H1 : (chargeparklaw12_ChargerWelded.l0 kj21 l2 true false (wrap64 (x10_2 + 1)) a0_0 a0_1 a0_2 a0_3 a0_4 a0_5 a0_6 a0_7 t300 t301 t302 t303) = some r := by rw [if_neg (show ¬ (false = true) by decide)] at H; exact H
              clear H
              have H := H1
              clear H1
              have H' := Aside0.mk H
              clear H
              have hnb54 := NB305_296.out
              have hnc54 := NB296_305.out
              have hnb55 := NB305_297.out
              have hnc55 := NB297_305.out
              have hcz56_0 : wc.cell? ⟨gb305, 0, none⟩ = some (.int .i64 t300) := (blk_cell BK305.out 0).trans rfl
              have hcz56_1 : wc.cell? ⟨gb305, 1, none⟩ = some (.int .i64 t301) := (blk_cell BK305.out 1).trans rfl
              have hcz56_2 : wc.cell? ⟨gb305, 2, none⟩ = some (.int .i64 t302) := (blk_cell BK305.out 2).trans rfl
              have hcz56_3 : wc.cell? ⟨gb305, 3, none⟩ = some (.bool t303) := (blk_cell BK305.out 3).trans rfl
              have hfz56_0 := blk_frozen BK305.out 0
              have hfz56_1 := blk_frozen BK305.out 1
              have hfz56_2 := blk_frozen BK305.out 2
              have hfz56_3 := blk_frozen BK305.out 3
              have hnb57 := NB297_296.out
              have hnc57 := NB296_297.out
              have hcz58_0 : wc.cell? ⟨gb297, 0, none⟩ = some (.int .i64 x298000_2) := (blk_cell BK297.out 0).trans rfl
              have hcz58_1 : wc.cell? ⟨gb297, 1, none⟩ = some (.int .i64 x298001_2) := (blk_cell BK297.out 1).trans rfl
              have hcz58_2 : wc.cell? ⟨gb297, 2, none⟩ = some (.int .i64 x298002_2) := (blk_cell BK297.out 2).trans rfl
              have hcz58_3 : wc.cell? ⟨gb297, 3, none⟩ = some (.bool x298003_2) := (blk_cell BK297.out 3).trans rfl
              have hfz58_0 := blk_frozen BK297.out 0
              have hfz58_1 := blk_frozen BK297.out 1
              have hfz58_2 := blk_frozen BK297.out 2
              have hfz58_3 := blk_frozen BK297.out 3
              try go_wp2
              have n0_ : Aside0 (((((wc.setCell ⟨gb297, 0, none⟩ (.int .i64 t300)).setCell ⟨gb297, 1, none⟩ (.int .i64 t301)).setCell ⟨gb297, 2, none⟩ (.int .i64 t302)).setCell ⟨gb297, 3, none⟩ (.bool t303)).heap[gb296]? = some (.cells #[.string a0_0, .int .i64 a0_1, .int .i64 a0_2, .int .i64 a0_3, .int .i64 a0_4, .int .i64 a0_5, .int .i64 a0_6, .int .i64 a0_7] 23 (0, 0))) := ⟨by (with_reducible repeat (first | refine blk_drewN ?_ _ | refine blk_drew ?_ | refine blk_alloc ?_ _)); refine blk_far ?_ NB296_297.out _; (with_reducible repeat (first | refine blk_drewN ?_ _ | refine blk_drew ?_ | refine blk_alloc ?_ _)); refine blk_far ?_ NB296_297.out _; (with_reducible repeat (first | refine blk_drewN ?_ _ | refine blk_drew ?_ | refine blk_alloc ?_ _)); refine blk_far ?_ NB296_297.out _; (with_reducible repeat (first | refine blk_drewN ?_ _ | refine blk_drew ?_ | refine blk_alloc ?_ _)); refine blk_far ?_ NB296_297.out _; (with_reducible repeat (first | refine blk_drewN ?_ _ | refine blk_drew ?_ | refine blk_alloc ?_ _)); exact BK296.out⟩
              have n1_ : Aside0 (((((wc.setCell ⟨gb297, 0, none⟩ (.int .i64 t300)).setCell ⟨gb297, 1, none⟩ (.int .i64 t301)).setCell ⟨gb297, 2, none⟩ (.int .i64 t302)).setCell ⟨gb297, 3, none⟩ (.bool t303)).heap[gb297]? = some (.cells #[.int .i64 t300, .int .i64 t301, .int .i64 t302, .bool t303] 25 (0, 0))) := ⟨by (with_reducible repeat (first | refine blk_drewN ?_ _ | refine blk_drew ?_ | refine blk_alloc ?_ _)); refine blk_put (cs := #[.int .i64 t300, .int .i64 t301, .int .i64 t302, .bool x298003_2]) ?_ 3 _ rfl; (with_reducible repeat (first | refine blk_drewN ?_ _ | refine blk_drew ?_ | refine blk_alloc ?_ _)); refine blk_put (cs := #[.int .i64 t300, .int .i64 t301, .int .i64 x298002_2, .bool x298003_2]) ?_ 2 _ rfl; (with_reducible repeat (first | refine blk_drewN ?_ _ | refine blk_drew ?_ | refine blk_alloc ?_ _)); refine blk_put (cs := #[.int .i64 t300, .int .i64 x298001_2, .int .i64 x298002_2, .bool x298003_2]) ?_ 1 _ rfl; (with_reducible repeat (first | refine blk_drewN ?_ _ | refine blk_drew ?_ | refine blk_alloc ?_ _)); refine blk_put (cs := #[.int .i64 x298000_2, .int .i64 x298001_2, .int .i64 x298002_2, .bool x298003_2]) ?_ 0 _ rfl; (with_reducible repeat (first | refine blk_drewN ?_ _ | refine blk_drew ?_ | refine blk_alloc ?_ _)); exact BK297.out⟩
              have n2_ : Aside0 (((((wc.setCell ⟨gb297, 0, none⟩ (.int .i64 t300)).setCell ⟨gb297, 1, none⟩ (.int .i64 t301)).setCell ⟨gb297, 2, none⟩ (.int .i64 t302)).setCell ⟨gb297, 3, none⟩ (.bool t303)).heap[gb305]? = some (.cells #[.int .i64 t300, .int .i64 t301, .int .i64 t302, .bool t303] 25 (0, 0))) := ⟨by (with_reducible repeat (first | refine blk_drewN ?_ _ | refine blk_drew ?_ | refine blk_alloc ?_ _)); refine blk_far ?_ NB305_297.out _; (with_reducible repeat (first | refine blk_drewN ?_ _ | refine blk_drew ?_ | refine blk_alloc ?_ _)); refine blk_far ?_ NB305_297.out _; (with_reducible repeat (first | refine blk_drewN ?_ _ | refine blk_drew ?_ | refine blk_alloc ?_ _)); refine blk_far ?_ NB305_297.out _; (with_reducible repeat (first | refine blk_drewN ?_ _ | refine blk_drew ?_ | refine blk_alloc ?_ _)); refine blk_far ?_ NB305_297.out _; (with_reducible repeat (first | refine blk_drewN ?_ _ | refine blk_drew ?_ | refine blk_alloc ?_ _)); exact BK305.out⟩
              have n3_ : Aside0 (Below w.heap.size w ((((wc.setCell ⟨gb297, 0, none⟩ (.int .i64 t300)).setCell ⟨gb297, 1, none⟩ (.int .i64 t301)).setCell ⟨gb297, 2, none⟩ (.int .i64 t302)).setCell ⟨gb297, 3, none⟩ (.bool t303))) := ⟨by repeat (first | (with_reducible first | exact HB.out | apply below_alloc | apply pw_below_drewN | apply below_drew1 | refine below_set ?_ GE296.out | refine below_set ?_ GE297.out | refine below_set ?_ GE305.out) | exact HB.out)⟩
              (try clear BK296)
              (try clear BK297)
              (try clear BK305)
              (try clear HB)
              generalize ((((wc.setCell ⟨gb297, 0, none⟩ (.int .i64 t300)).setCell ⟨gb297, 1, none⟩ (.int .i64 t301)).setCell ⟨gb297, 2, none⟩ (.int .i64 t302)).setCell ⟨gb297, 3, none⟩ (.bool t303)) = w59 at n0_ n1_ n2_ n3_ ⊢
              have BK296 := n0_
              have BK297 := n1_
              have BK305 := n2_
              have HB := n3_
              clear n0_ n1_ n2_ n3_
              have n0_ := Aside0.mk (blk_drew BK296.out)
              have n1_ := Aside0.mk (blk_drew BK297.out)
              have n2_ := Aside0.mk (blk_drew BK305.out)
              have n3_ := Aside0.mk (below_drew1 HB.out)
              clear BK296
              clear BK297
              clear BK305
              clear HB
              have BK296 := n0_
              have BK297 := n1_
              have BK305 := n2_
              have HB := n3_
              clear n0_ n1_ n2_ n3_
              refine start_ (n := 25) (S := fun w' => w'.cell? ⟨gb297, 0, none⟩ = some (.int .i64 t300) ∧ w'.cell? ⟨gb297, 1, none⟩ = some (.int .i64 t301) ∧ w'.cell? ⟨gb297, 2, none⟩ = some (.int .i64 t302) ∧ w'.cell? ⟨gb297, 3, none⟩ = some (.bool t303)) (ds := []) #[false, false, false, false, false, false, false, false, false, false, false, false, false, false, false, false, false, false, false, false, false, false, false, false, false] (by kernel_rfl) rfl rfl ⟨(blk_cell BK297.out 0).trans rfl, (blk_cell BK297.out 1).trans rfl, (blk_cell BK297.out 2).trans rfl, (blk_cell BK297.out 3).trans rfl⟩ (fun hHeld => ?_); refine with_tabW chargeparklaw12_ChargerWelded.tab13 chargeparklaw12_ChargerWelded.bits13 (fun HT_ HW_ => ?_)
              generalize w59.drew = w60 at BK296 BK297 BK305 HB hHeld ⊢
              refine pure_ (i := 0) (N := some 63) (v := ?_) (a' := ?_) #[true, false, false, false, false, false, false, false, false, false, false, false, false, false, false, false, false, false, false, false, false, false, false, false, false] rfl rfl (any_of HT_.out (by kernel_rfl)) (fun _ _ _ h => h) (Or.inl ⟨by rfl, ?_⟩) ?_ ?_
              rotate_left
              ·intro w'
               go_simp
               with_reducible rfl
              rotate_left
              ·simp only [Act.put, List.setIfInBounds_toArray, List.set_cons_zero, List.set_cons_succ, i64_w, i32_w]
               rfl
              refine pure_ (i := 1) (N := some 64) (v := ?_) (a' := ?_) #[true, true, false, false, false, false, false, false, false, false, false, false, false, false, false, false, false, false, false, false, false, false, false, false, false] rfl rfl (any_of HT_.out (by kernel_rfl)) (fun _ _ _ h => h) (Or.inl ⟨by rfl, ?_⟩) ?_ ?_
              rotate_left
              ·intro w'
               go_simp
               with_reducible rfl
              rotate_left
              ·simp only [Act.put, List.setIfInBounds_toArray, List.set_cons_zero, List.set_cons_succ, i64_w, i32_w]
               rfl
              refine pure_ (i := 2) (N := some 65) (v := ?_) (a' := ?_) #[true, true, true, false, false, false, false, false, false, false, false, false, false, false, false, false, false, false, false, false, false, false, false, false, false] rfl rfl (any_of HT_.out (by kernel_rfl)) (fun _ _ _ h => h) (Or.inl ⟨by rfl, ?_⟩) ?_ ?_
              rotate_left
              ·intro w'
               go_simp
               with_reducible rfl
              rotate_left
              ·simp only [Act.put, List.setIfInBounds_toArray, List.set_cons_zero, List.set_cons_succ, i64_w, i32_w]
               rfl
              refine pure_ (i := 4) (N := some 67) (v := ?_) (a' := ?_) #[true, true, true, false, true, false, false, false, false, false, false, false, false, false, false, false, false, false, false, false, false, false, false, false, false] rfl rfl (any_of HT_.out (by kernel_rfl)) (fun _ _ _ h => h) (Or.inl ⟨by rfl, ?_⟩) ?_ ?_
              rotate_left
              ·intro w'
               go_simp
               with_reducible rfl
              rotate_left
              ·simp only [Act.put, List.setIfInBounds_toArray, List.set_cons_zero, List.set_cons_succ, i64_w, i32_w]
               rfl
              refine take_ (i := 3) (N := some 66) (v := ?_) (a' := ?_) #[true, true, true, true, true, false, false, false, false, false, false, false, false, false, false, false, false, false, false, false, false, false, false, false, false] rfl rfl (take_ofW HT_.out HW_.out (by kernel_rfl)) (fun _ _ _ h => h) (Or.inl ⟨by rfl, ?_⟩) hHeld ?_ ?_
              rotate_left
              ·rintro w' ⟨s0, s1, s2, s3⟩
               go_simp
               with_reducible rfl
              rotate_left
              ·simp only [Act.put, List.setIfInBounds_toArray, List.set_cons_zero, List.set_cons_succ, i64_w, i32_w]
               rfl
              refine pure_ (i := 5) (N := some 68) (v := ?_) (a' := ?_) #[true, true, true, true, true, true, false, false, false, false, false, false, false, false, false, false, false, false, false, false, false, false, false, false, false] rfl rfl (any_of HT_.out (by kernel_rfl)) (fun _ _ _ h => h) (Or.inl ⟨by rfl, ?_⟩) ?_ ?_
              rotate_left
              ·intro w'
               go_simp
               with_reducible rfl
              rotate_left
              ·simp only [Act.put, List.setIfInBounds_toArray, List.set_cons_zero, List.set_cons_succ, i64_w, i32_w]
               rfl
              refine pure_ (i := 6) (N := some 69) (v := ?_) (a' := ?_) #[true, true, true, true, true, true, true, false, false, false, false, false, false, false, false, false, false, false, false, false, false, false, false, false, false] rfl rfl (any_of HT_.out (by kernel_rfl)) (fun _ _ _ h => h) (Or.inl ⟨by rfl, ?_⟩) ?_ ?_
              rotate_left
              ·intro w'
               go_simp
               with_reducible rfl
              rotate_left
              ·simp only [Act.put, List.setIfInBounds_toArray, List.set_cons_zero, List.set_cons_succ, i64_w, i32_w]
               rfl
              refine pure_ (i := 7) (N := some 70) (v := ?_) (a' := ?_) #[true, true, true, true, true, true, true, true, false, false, false, false, false, false, false, false, false, false, false, false, false, false, false, false, false] rfl rfl (any_of HT_.out (by kernel_rfl)) (fun _ _ _ h => h) (Or.inl ⟨by rfl, ?_⟩) ?_ ?_
              rotate_left
              ·intro w'
               go_simp
               with_reducible rfl
              rotate_left
              ·simp only [Act.put, List.setIfInBounds_toArray, List.set_cons_zero, List.set_cons_succ, i64_w, i32_w]
               rfl
              refine pure_ (i := 8) (N := some 71) (v := ?_) (a' := ?_) #[true, true, true, true, true, true, true, true, true, false, false, false, false, false, false, false, false, false, false, false, false, false, false, false, false] rfl rfl (any_of HT_.out (by kernel_rfl)) (fun _ _ _ h => h) (Or.inl ⟨by rfl, ?_⟩) ?_ ?_
              rotate_left
              ·intro w'
               go_simp
               with_reducible rfl
              rotate_left
              ·simp only [Act.put, List.setIfInBounds_toArray, List.set_cons_zero, List.set_cons_succ, i64_w, i32_w]
               rfl
              refine pure_ (i := 9) (N := some 72) (v := ?_) (a' := ?_) #[true, true, true, true, true, true, true, true, true, true, false, false, false, false, false, false, false, false, false, false, false, false, false, false, false] rfl rfl (any_of HT_.out (by kernel_rfl)) (fun _ _ _ h => h) (Or.inl ⟨by rfl, ?_⟩) ?_ ?_
              rotate_left
              ·intro w'
               go_simp
               with_reducible rfl
              rotate_left
              ·simp only [Act.put, List.setIfInBounds_toArray, List.set_cons_zero, List.set_cons_succ, i64_w, i32_w]
               rfl
              refine pure_ (i := 10) (N := some 73) (v := ?_) (a' := ?_) #[true, true, true, true, true, true, true, true, true, true, true, false, false, false, false, false, false, false, false, false, false, false, false, false, false] rfl rfl (any_of HT_.out (by kernel_rfl)) (fun _ _ _ h => h) (Or.inl ⟨by rfl, ?_⟩) ?_ ?_
              rotate_left
              ·intro w'
               go_simp
               with_reducible rfl
              rotate_left
              ·simp only [Act.put, List.setIfInBounds_toArray, List.set_cons_zero, List.set_cons_succ, i64_w, i32_w]
               rfl
              refine pure_ (i := 11) (N := some 74) (v := undef) (a' := ?_) #[true, true, true, true, true, true, true, true, true, true, true, true, false, false, false, false, false, false, false, false, false, false, false, false, false] rfl rfl (any_of HT_.out (by kernel_rfl)) (fun _ _ _ h => h) (Or.inr ⟨by rfl, rfl⟩) ?_ ?_
              rotate_left
              ·simp only [Act.put, List.setIfInBounds_toArray, List.set_cons_zero, List.set_cons_succ, i64_w, i32_w]
               rfl
              refine pure_ (i := 12) (N := some 75) (v := undef) (a' := ?_) #[true, true, true, true, true, true, true, true, true, true, true, true, true, false, false, false, false, false, false, false, false, false, false, false, false] rfl rfl (any_of HT_.out (by kernel_rfl)) (fun _ _ _ h => h) (Or.inr ⟨by rfl, rfl⟩) ?_ ?_
              rotate_left
              ·simp only [Act.put, List.setIfInBounds_toArray, List.set_cons_zero, List.set_cons_succ, i64_w, i32_w]
               rfl
              refine pure_ (i := 13) (N := some 76) (v := undef) (a' := ?_) #[true, true, true, true, true, true, true, true, true, true, true, true, true, true, false, false, false, false, false, false, false, false, false, false, false] rfl rfl (any_of HT_.out (by kernel_rfl)) (fun _ _ _ h => h) (Or.inr ⟨by rfl, rfl⟩) ?_ ?_
              rotate_left
              ·simp only [Act.put, List.setIfInBounds_toArray, List.set_cons_zero, List.set_cons_succ, i64_w, i32_w]
               rfl
              refine pure_ (i := 14) (N := some 77) (v := undef) (a' := ?_) #[true, true, true, true, true, true, true, true, true, true, true, true, true, true, true, false, false, false, false, false, false, false, false, false, false] rfl rfl (any_of HT_.out (by kernel_rfl)) (fun _ _ _ h => h) (Or.inr ⟨by rfl, rfl⟩) ?_ ?_
              rotate_left
              ·simp only [Act.put, List.setIfInBounds_toArray, List.set_cons_zero, List.set_cons_succ, i64_w, i32_w]
               rfl
              refine pure_ (i := 15) (N := some 78) (v := undef) (a' := ?_) #[true, true, true, true, true, true, true, true, true, true, true, true, true, true, true, true, false, false, false, false, false, false, false, false, false] rfl rfl (any_of HT_.out (by kernel_rfl)) (fun _ _ _ h => h) (Or.inr ⟨by rfl, rfl⟩) ?_ ?_
              rotate_left
              ·simp only [Act.put, List.setIfInBounds_toArray, List.set_cons_zero, List.set_cons_succ, i64_w, i32_w]
               rfl
              refine pure_ (i := 16) (N := some 79) (v := undef) (a' := ?_) #[true, true, true, true, true, true, true, true, true, true, true, true, true, true, true, true, true, false, false, false, false, false, false, false, false] rfl rfl (any_of HT_.out (by kernel_rfl)) (fun _ _ _ h => h) (Or.inr ⟨by rfl, rfl⟩) ?_ ?_
              rotate_left
              ·simp only [Act.put, List.setIfInBounds_toArray, List.set_cons_zero, List.set_cons_succ, i64_w, i32_w]
               rfl
              refine pure_ (i := 17) (N := some 80) (v := undef) (a' := ?_) #[true, true, true, true, true, true, true, true, true, true, true, true, true, true, true, true, true, true, false, false, false, false, false, false, false] rfl rfl (any_of HT_.out (by kernel_rfl)) (fun _ _ _ h => h) (Or.inr ⟨by rfl, rfl⟩) ?_ ?_
              rotate_left
              ·simp only [Act.put, List.setIfInBounds_toArray, List.set_cons_zero, List.set_cons_succ, i64_w, i32_w]
               rfl
              refine pure_ (i := 18) (N := some 81) (v := undef) (a' := ?_) #[true, true, true, true, true, true, true, true, true, true, true, true, true, true, true, true, true, true, true, false, false, false, false, false, false] rfl rfl (any_of HT_.out (by kernel_rfl)) (fun _ _ _ h => h) (Or.inr ⟨by rfl, rfl⟩) ?_ ?_
              rotate_left
              ·simp only [Act.put, List.setIfInBounds_toArray, List.set_cons_zero, List.set_cons_succ, i64_w, i32_w]
               rfl
              refine pure_ (i := 19) (N := some 82) (v := undef) (a' := ?_) #[true, true, true, true, true, true, true, true, true, true, true, true, true, true, true, true, true, true, true, true, false, false, false, false, false] rfl rfl (any_of HT_.out (by kernel_rfl)) (fun _ _ _ h => h) (Or.inr ⟨by rfl, rfl⟩) ?_ ?_
              rotate_left
              ·simp only [Act.put, List.setIfInBounds_toArray, List.set_cons_zero, List.set_cons_succ, i64_w, i32_w]
               rfl
              refine pure_ (i := 20) (N := some 83) (v := undef) (a' := ?_) #[true, true, true, true, true, true, true, true, true, true, true, true, true, true, true, true, true, true, true, true, true, false, false, false, false] rfl rfl (any_of HT_.out (by kernel_rfl)) (fun _ _ _ h => h) (Or.inr ⟨by rfl, rfl⟩) ?_ ?_
              rotate_left
              ·simp only [Act.put, List.setIfInBounds_toArray, List.set_cons_zero, List.set_cons_succ, i64_w, i32_w]
               rfl
              refine pure_ (i := 21) (N := some 84) (v := undef) (a' := ?_) #[true, true, true, true, true, true, true, true, true, true, true, true, true, true, true, true, true, true, true, true, true, true, false, false, false] rfl rfl (any_of HT_.out (by kernel_rfl)) (fun _ _ _ h => h) (Or.inr ⟨by rfl, rfl⟩) ?_ ?_
              rotate_left
              ·simp only [Act.put, List.setIfInBounds_toArray, List.set_cons_zero, List.set_cons_succ, i64_w, i32_w]
               rfl
              refine pure_ (i := 22) (N := some 85) (v := ?_) (a' := ?_) #[true, true, true, true, true, true, true, true, true, true, true, true, true, true, true, true, true, true, true, true, true, true, true, false, false] rfl rfl (any_of HT_.out (by kernel_rfl)) (fun _ _ _ h => h) (Or.inl ⟨by rfl, ?_⟩) ?_ ?_
              rotate_left
              ·intro w'
               go_simp
               with_reducible rfl
              rotate_left
              ·simp only [Act.put, List.setIfInBounds_toArray, List.set_cons_zero, List.set_cons_succ, i64_w, i32_w]
               rfl
              refine pure_ (i := 23) (N := some 86) (v := ?_) (a' := ?_) #[true, true, true, true, true, true, true, true, true, true, true, true, true, true, true, true, true, true, true, true, true, true, true, true, false] rfl rfl (any_of HT_.out (by kernel_rfl)) (fun _ _ _ h => h) (Or.inl ⟨by rfl, ?_⟩) ?_ ?_
              rotate_left
              ·intro w'
               go_simp
               with_reducible rfl
              rotate_left
              ·simp only [Act.put, List.setIfInBounds_toArray, List.set_cons_zero, List.set_cons_succ, i64_w, i32_w]
               rfl
              refine pure_ (i := 24) (N := some 7) (v := ?_) (a' := ?_) #[true, true, true, true, true, true, true, true, true, true, true, true, true, true, true, true, true, true, true, true, true, true, true, true, true] rfl rfl (any_of HT_.out (by kernel_rfl)) (fun _ _ _ h => h) (Or.inl ⟨by rfl, ?_⟩) ?_ ?_
              rotate_left
              ·intro w'
               go_simp
               with_reducible rfl
              rotate_left
              ·simp only [Act.put, List.setIfInBounds_toArray, List.set_cons_zero, List.set_cons_succ, i64_w, i32_w]
               rfl
              refine done_ (done_of HT_.out (by kernel_rfl)) ?_
              try go_wp2
              go_roundg kj21
              case measure => have := HJ5.out; have := HK2.out; have := HJ21.out; omega
              case rel => exact ⟨(true), (false), (wrap64 (x10_2 + 1)), (t300), (t301), (t302), (t303), (by first | rfl | (simp; done) | (simp [*]; done)), (by first | rfl | (simp; done) | (simp [*]; done)), (by first | rfl | (simp; done) | (simp [*]; done)), H', ⟨by have := HJ5.out; have := HK2.out; have := HJ21.out; omega⟩, ⟨by (with_reducible repeat (first | refine blk_drewN ?_ _ | refine blk_drew ?_ | refine blk_alloc ?_ _)); exact BK296.out⟩, ⟨by (with_reducible repeat (first | refine blk_drewN ?_ _ | refine blk_drew ?_ | refine blk_alloc ?_ _)); exact BK297.out⟩, ⟨by repeat (first | (with_reducible first | exact HB.out | apply below_alloc | apply pw_below_drewN | apply below_drew1 | refine below_set ?_ GE296.out | refine below_set ?_ GE297.out | refine below_set ?_ GE305.out) | exact HB.out)⟩⟩
            ·rw [if_neg c34] at H
             have c34b0 : (t303 == x9_21) = false := by simpa using c34
             (try (have c34b1 : decide (t303 = x9_21) = false := by simpa using c34))
             (try (have c34b2 : (t303 == x9_21) = false := by simpa using c34))
             (try (have c34b3 : ¬ (t303 = x9_21) := by simpa using c34))
             clear c34
             have H' := Aside0.mk H
             clear H
             have hnb61 := NB305_296.out
             have hnc61 := NB296_305.out
             have hnb62 := NB305_297.out
             have hnc62 := NB297_305.out
             have hcz63_0 : wc.cell? ⟨gb305, 0, none⟩ = some (.int .i64 t300) := (blk_cell BK305.out 0).trans rfl
             have hcz63_1 : wc.cell? ⟨gb305, 1, none⟩ = some (.int .i64 t301) := (blk_cell BK305.out 1).trans rfl
             have hcz63_2 : wc.cell? ⟨gb305, 2, none⟩ = some (.int .i64 t302) := (blk_cell BK305.out 2).trans rfl
             have hcz63_3 : wc.cell? ⟨gb305, 3, none⟩ = some (.bool t303) := (blk_cell BK305.out 3).trans rfl
             have hfz63_0 := blk_frozen BK305.out 0
             have hfz63_1 := blk_frozen BK305.out 1
             have hfz63_2 := blk_frozen BK305.out 2
             have hfz63_3 := blk_frozen BK305.out 3
             have hnb64 := NB297_296.out
             have hnc64 := NB296_297.out
             have hcz65_0 : wc.cell? ⟨gb297, 0, none⟩ = some (.int .i64 x298000_2) := (blk_cell BK297.out 0).trans rfl
             have hcz65_1 : wc.cell? ⟨gb297, 1, none⟩ = some (.int .i64 x298001_2) := (blk_cell BK297.out 1).trans rfl
             have hcz65_2 : wc.cell? ⟨gb297, 2, none⟩ = some (.int .i64 x298002_2) := (blk_cell BK297.out 2).trans rfl
             have hcz65_3 : wc.cell? ⟨gb297, 3, none⟩ = some (.bool x298003_2) := (blk_cell BK297.out 3).trans rfl
             have hfz65_0 := blk_frozen BK297.out 0
             have hfz65_1 := blk_frozen BK297.out 1
             have hfz65_2 := blk_frozen BK297.out 2
             have hfz65_3 := blk_frozen BK297.out 3
             try go_wp2
             have n0_ : Aside0 (((((wc.setCell ⟨gb297, 0, none⟩ (.int .i64 t300)).setCell ⟨gb297, 1, none⟩ (.int .i64 t301)).setCell ⟨gb297, 2, none⟩ (.int .i64 t302)).setCell ⟨gb297, 3, none⟩ (.bool t303)).heap[gb296]? = some (.cells #[.string a0_0, .int .i64 a0_1, .int .i64 a0_2, .int .i64 a0_3, .int .i64 a0_4, .int .i64 a0_5, .int .i64 a0_6, .int .i64 a0_7] 23 (0, 0))) := ⟨by (with_reducible repeat (first | refine blk_drewN ?_ _ | refine blk_drew ?_ | refine blk_alloc ?_ _)); refine blk_far ?_ NB296_297.out _; (with_reducible repeat (first | refine blk_drewN ?_ _ | refine blk_drew ?_ | refine blk_alloc ?_ _)); refine blk_far ?_ NB296_297.out _; (with_reducible repeat (first | refine blk_drewN ?_ _ | refine blk_drew ?_ | refine blk_alloc ?_ _)); refine blk_far ?_ NB296_297.out _; (with_reducible repeat (first | refine blk_drewN ?_ _ | refine blk_drew ?_ | refine blk_alloc ?_ _)); refine blk_far ?_ NB296_297.out _; (with_reducible repeat (first | refine blk_drewN ?_ _ | refine blk_drew ?_ | refine blk_alloc ?_ _)); exact BK296.out⟩
             have n1_ : Aside0 (((((wc.setCell ⟨gb297, 0, none⟩ (.int .i64 t300)).setCell ⟨gb297, 1, none⟩ (.int .i64 t301)).setCell ⟨gb297, 2, none⟩ (.int .i64 t302)).setCell ⟨gb297, 3, none⟩ (.bool t303)).heap[gb297]? = some (.cells #[.int .i64 t300, .int .i64 t301, .int .i64 t302, .bool t303] 25 (0, 0))) := ⟨by (with_reducible repeat (first | refine blk_drewN ?_ _ | refine blk_drew ?_ | refine blk_alloc ?_ _)); refine blk_put (cs := #[.int .i64 t300, .int .i64 t301, .int .i64 t302, .bool x298003_2]) ?_ 3 _ rfl; (with_reducible repeat (first | refine blk_drewN ?_ _ | refine blk_drew ?_ | refine blk_alloc ?_ _)); refine blk_put (cs := #[.int .i64 t300, .int .i64 t301, .int .i64 x298002_2, .bool x298003_2]) ?_ 2 _ rfl; (with_reducible repeat (first | refine blk_drewN ?_ _ | refine blk_drew ?_ | refine blk_alloc ?_ _)); refine blk_put (cs := #[.int .i64 t300, .int .i64 x298001_2, .int .i64 x298002_2, .bool x298003_2]) ?_ 1 _ rfl; (with_reducible repeat (first | refine blk_drewN ?_ _ | refine blk_drew ?_ | refine blk_alloc ?_ _)); refine blk_put (cs := #[.int .i64 x298000_2, .int .i64 x298001_2, .int .i64 x298002_2, .bool x298003_2]) ?_ 0 _ rfl; (with_reducible repeat (first | refine blk_drewN ?_ _ | refine blk_drew ?_ | refine blk_alloc ?_ _)); exact BK297.out⟩
             have n2_ : Aside0 (((((wc.setCell ⟨gb297, 0, none⟩ (.int .i64 t300)).setCell ⟨gb297, 1, none⟩ (.int .i64 t301)).setCell ⟨gb297, 2, none⟩ (.int .i64 t302)).setCell ⟨gb297, 3, none⟩ (.bool t303)).heap[gb305]? = some (.cells #[.int .i64 t300, .int .i64 t301, .int .i64 t302, .bool t303] 25 (0, 0))) := ⟨by (with_reducible repeat (first | refine blk_drewN ?_ _ | refine blk_drew ?_ | refine blk_alloc ?_ _)); refine blk_far ?_ NB305_297.out _; (with_reducible repeat (first | refine blk_drewN ?_ _ | refine blk_drew ?_ | refine blk_alloc ?_ _)); refine blk_far ?_ NB305_297.out _; (with_reducible repeat (first | refine blk_drewN ?_ _ | refine blk_drew ?_ | refine blk_alloc ?_ _)); refine blk_far ?_ NB305_297.out _; (with_reducible repeat (first | refine blk_drewN ?_ _ | refine blk_drew ?_ | refine blk_alloc ?_ _)); refine blk_far ?_ NB305_297.out _; (with_reducible repeat (first | refine blk_drewN ?_ _ | refine blk_drew ?_ | refine blk_alloc ?_ _)); exact BK305.out⟩
             have n3_ : Aside0 (Below w.heap.size w ((((wc.setCell ⟨gb297, 0, none⟩ (.int .i64 t300)).setCell ⟨gb297, 1, none⟩ (.int .i64 t301)).setCell ⟨gb297, 2, none⟩ (.int .i64 t302)).setCell ⟨gb297, 3, none⟩ (.bool t303))) := ⟨by repeat (first | (with_reducible first | exact HB.out | apply below_alloc | apply pw_below_drewN | apply below_drew1 | refine below_set ?_ GE296.out | refine below_set ?_ GE297.out | refine below_set ?_ GE305.out) | exact HB.out)⟩
             (try clear BK296)
             (try clear BK297)
             (try clear BK305)
             (try clear HB)
             generalize ((((wc.setCell ⟨gb297, 0, none⟩ (.int .i64 t300)).setCell ⟨gb297, 1, none⟩ (.int .i64 t301)).setCell ⟨gb297, 2, none⟩ (.int .i64 t302)).setCell ⟨gb297, 3, none⟩ (.bool t303)) = w66 at n0_ n1_ n2_ n3_ ⊢
             have BK296 := n0_
             have BK297 := n1_
             have BK305 := n2_
             have HB := n3_
             clear n0_ n1_ n2_ n3_
             have n0_ := Aside0.mk (blk_drew BK296.out)
             have n1_ := Aside0.mk (blk_drew BK297.out)
             have n2_ := Aside0.mk (blk_drew BK305.out)
             have n3_ := Aside0.mk (below_drew1 HB.out)
             clear BK296
             clear BK297
             clear BK305
             clear HB
             have BK296 := n0_
             have BK297 := n1_
             have BK305 := n2_
             have HB := n3_
             clear n0_ n1_ n2_ n3_
             refine start_ (n := 25) (S := fun w' => w'.cell? ⟨gb297, 0, none⟩ = some (.int .i64 t300) ∧ w'.cell? ⟨gb297, 1, none⟩ = some (.int .i64 t301) ∧ w'.cell? ⟨gb297, 2, none⟩ = some (.int .i64 t302) ∧ w'.cell? ⟨gb297, 3, none⟩ = some (.bool t303)) (ds := []) #[false, false, false, false, false, false, false, false, false, false, false, false, false, false, false, false, false, false, false, false, false, false, false, false, false] (by kernel_rfl) rfl rfl ⟨(blk_cell BK297.out 0).trans rfl, (blk_cell BK297.out 1).trans rfl, (blk_cell BK297.out 2).trans rfl, (blk_cell BK297.out 3).trans rfl⟩ (fun hHeld => ?_); refine with_tabW chargeparklaw12_ChargerWelded.tab13 chargeparklaw12_ChargerWelded.bits13 (fun HT_ HW_ => ?_)
             generalize w66.drew = w67 at BK296 BK297 BK305 HB hHeld ⊢
             refine pure_ (i := 0) (N := some 63) (v := ?_) (a' := ?_) #[true, false, false, false, false, false, false, false, false, false, false, false, false, false, false, false, false, false, false, false, false, false, false, false, false] rfl rfl (any_of HT_.out (by kernel_rfl)) (fun _ _ _ h => h) (Or.inl ⟨by rfl, ?_⟩) ?_ ?_
             rotate_left
             ·intro w'
              go_simp
              with_reducible rfl
             rotate_left
             ·simp only [Act.put, List.setIfInBounds_toArray, List.set_cons_zero, List.set_cons_succ, i64_w, i32_w]
              rfl
             refine pure_ (i := 1) (N := some 64) (v := ?_) (a' := ?_) #[true, true, false, false, false, false, false, false, false, false, false, false, false, false, false, false, false, false, false, false, false, false, false, false, false] rfl rfl (any_of HT_.out (by kernel_rfl)) (fun _ _ _ h => h) (Or.inl ⟨by rfl, ?_⟩) ?_ ?_
             rotate_left
             ·intro w'
              go_simp
              with_reducible rfl
             rotate_left
             ·simp only [Act.put, List.setIfInBounds_toArray, List.set_cons_zero, List.set_cons_succ, i64_w, i32_w]
              rfl
             refine pure_ (i := 2) (N := some 65) (v := ?_) (a' := ?_) #[true, true, true, false, false, false, false, false, false, false, false, false, false, false, false, false, false, false, false, false, false, false, false, false, false] rfl rfl (any_of HT_.out (by kernel_rfl)) (fun _ _ _ h => h) (Or.inl ⟨by rfl, ?_⟩) ?_ ?_
             rotate_left
             ·intro w'
              go_simp
              with_reducible rfl
             rotate_left
             ·simp only [Act.put, List.setIfInBounds_toArray, List.set_cons_zero, List.set_cons_succ, i64_w, i32_w]
              rfl
             refine pure_ (i := 4) (N := some 67) (v := ?_) (a' := ?_) #[true, true, true, false, true, false, false, false, false, false, false, false, false, false, false, false, false, false, false, false, false, false, false, false, false] rfl rfl (any_of HT_.out (by kernel_rfl)) (fun _ _ _ h => h) (Or.inl ⟨by rfl, ?_⟩) ?_ ?_
             rotate_left
             ·intro w'
              go_simp
              with_reducible rfl
             rotate_left
             ·simp only [Act.put, List.setIfInBounds_toArray, List.set_cons_zero, List.set_cons_succ, i64_w, i32_w]
              rfl
             refine take_ (i := 3) (N := some 66) (v := ?_) (a' := ?_) #[true, true, true, true, true, false, false, false, false, false, false, false, false, false, false, false, false, false, false, false, false, false, false, false, false] rfl rfl (take_ofW HT_.out HW_.out (by kernel_rfl)) (fun _ _ _ h => h) (Or.inl ⟨by rfl, ?_⟩) hHeld ?_ ?_
             rotate_left
             ·rintro w' ⟨s0, s1, s2, s3⟩
              go_simp
              with_reducible rfl
             rotate_left
             ·simp only [Act.put, List.setIfInBounds_toArray, List.set_cons_zero, List.set_cons_succ, i64_w, i32_w]
              rfl
             refine pure_ (i := 5) (N := some 68) (v := ?_) (a' := ?_) #[true, true, true, true, true, true, false, false, false, false, false, false, false, false, false, false, false, false, false, false, false, false, false, false, false] rfl rfl (any_of HT_.out (by kernel_rfl)) (fun _ _ _ h => h) (Or.inl ⟨by rfl, ?_⟩) ?_ ?_
             rotate_left
             ·intro w'
              go_simp
              with_reducible rfl
             rotate_left
             ·simp only [Act.put, List.setIfInBounds_toArray, List.set_cons_zero, List.set_cons_succ, i64_w, i32_w]
              rfl
             refine pure_ (i := 6) (N := some 69) (v := ?_) (a' := ?_) #[true, true, true, true, true, true, true, false, false, false, false, false, false, false, false, false, false, false, false, false, false, false, false, false, false] rfl rfl (any_of HT_.out (by kernel_rfl)) (fun _ _ _ h => h) (Or.inl ⟨by rfl, ?_⟩) ?_ ?_
             rotate_left
             ·intro w'
              go_simp
              with_reducible rfl
             rotate_left
             ·simp only [Act.put, List.setIfInBounds_toArray, List.set_cons_zero, List.set_cons_succ, i64_w, i32_w]
              rfl
             refine pure_ (i := 7) (N := some 70) (v := ?_) (a' := ?_) #[true, true, true, true, true, true, true, true, false, false, false, false, false, false, false, false, false, false, false, false, false, false, false, false, false] rfl rfl (any_of HT_.out (by kernel_rfl)) (fun _ _ _ h => h) (Or.inl ⟨by rfl, ?_⟩) ?_ ?_
             rotate_left
             ·intro w'
              go_simp
              with_reducible rfl
             rotate_left
             ·simp only [Act.put, List.setIfInBounds_toArray, List.set_cons_zero, List.set_cons_succ, i64_w, i32_w]
              rfl
             refine pure_ (i := 8) (N := some 71) (v := undef) (a' := ?_) #[true, true, true, true, true, true, true, true, true, false, false, false, false, false, false, false, false, false, false, false, false, false, false, false, false] rfl rfl (any_of HT_.out (by kernel_rfl)) (fun _ _ _ h => h) (Or.inr ⟨by rfl, rfl⟩) ?_ ?_
             rotate_left
             ·simp only [Act.put, List.setIfInBounds_toArray, List.set_cons_zero, List.set_cons_succ, i64_w, i32_w]
              rfl
             refine pure_ (i := 9) (N := some 72) (v := undef) (a' := ?_) #[true, true, true, true, true, true, true, true, true, true, false, false, false, false, false, false, false, false, false, false, false, false, false, false, false] rfl rfl (any_of HT_.out (by kernel_rfl)) (fun _ _ _ h => h) (Or.inr ⟨by rfl, rfl⟩) ?_ ?_
             rotate_left
             ·simp only [Act.put, List.setIfInBounds_toArray, List.set_cons_zero, List.set_cons_succ, i64_w, i32_w]
              rfl
             refine pure_ (i := 10) (N := some 73) (v := undef) (a' := ?_) #[true, true, true, true, true, true, true, true, true, true, true, false, false, false, false, false, false, false, false, false, false, false, false, false, false] rfl rfl (any_of HT_.out (by kernel_rfl)) (fun _ _ _ h => h) (Or.inr ⟨by rfl, rfl⟩) ?_ ?_
             rotate_left
             ·simp only [Act.put, List.setIfInBounds_toArray, List.set_cons_zero, List.set_cons_succ, i64_w, i32_w]
              rfl
             refine pure_ (i := 11) (N := some 74) (v := undef) (a' := ?_) #[true, true, true, true, true, true, true, true, true, true, true, true, false, false, false, false, false, false, false, false, false, false, false, false, false] rfl rfl (any_of HT_.out (by kernel_rfl)) (fun _ _ _ h => h) (Or.inr ⟨by rfl, rfl⟩) ?_ ?_
             rotate_left
             ·simp only [Act.put, List.setIfInBounds_toArray, List.set_cons_zero, List.set_cons_succ, i64_w, i32_w]
              rfl
             refine pure_ (i := 12) (N := some 75) (v := undef) (a' := ?_) #[true, true, true, true, true, true, true, true, true, true, true, true, true, false, false, false, false, false, false, false, false, false, false, false, false] rfl rfl (any_of HT_.out (by kernel_rfl)) (fun _ _ _ h => h) (Or.inr ⟨by rfl, rfl⟩) ?_ ?_
             rotate_left
             ·simp only [Act.put, List.setIfInBounds_toArray, List.set_cons_zero, List.set_cons_succ, i64_w, i32_w]
              rfl
             refine pure_ (i := 13) (N := some 76) (v := undef) (a' := ?_) #[true, true, true, true, true, true, true, true, true, true, true, true, true, true, false, false, false, false, false, false, false, false, false, false, false] rfl rfl (any_of HT_.out (by kernel_rfl)) (fun _ _ _ h => h) (Or.inr ⟨by rfl, rfl⟩) ?_ ?_
             rotate_left
             ·simp only [Act.put, List.setIfInBounds_toArray, List.set_cons_zero, List.set_cons_succ, i64_w, i32_w]
              rfl
             refine pure_ (i := 14) (N := some 77) (v := undef) (a' := ?_) #[true, true, true, true, true, true, true, true, true, true, true, true, true, true, true, false, false, false, false, false, false, false, false, false, false] rfl rfl (any_of HT_.out (by kernel_rfl)) (fun _ _ _ h => h) (Or.inr ⟨by rfl, rfl⟩) ?_ ?_
             rotate_left
             ·simp only [Act.put, List.setIfInBounds_toArray, List.set_cons_zero, List.set_cons_succ, i64_w, i32_w]
              rfl
             refine pure_ (i := 15) (N := some 78) (v := undef) (a' := ?_) #[true, true, true, true, true, true, true, true, true, true, true, true, true, true, true, true, false, false, false, false, false, false, false, false, false] rfl rfl (any_of HT_.out (by kernel_rfl)) (fun _ _ _ h => h) (Or.inr ⟨by rfl, rfl⟩) ?_ ?_
             rotate_left
             ·simp only [Act.put, List.setIfInBounds_toArray, List.set_cons_zero, List.set_cons_succ, i64_w, i32_w]
              rfl
             refine pure_ (i := 16) (N := some 79) (v := undef) (a' := ?_) #[true, true, true, true, true, true, true, true, true, true, true, true, true, true, true, true, true, false, false, false, false, false, false, false, false] rfl rfl (any_of HT_.out (by kernel_rfl)) (fun _ _ _ h => h) (Or.inr ⟨by rfl, rfl⟩) ?_ ?_
             rotate_left
             ·simp only [Act.put, List.setIfInBounds_toArray, List.set_cons_zero, List.set_cons_succ, i64_w, i32_w]
              rfl
             refine pure_ (i := 17) (N := some 80) (v := undef) (a' := ?_) #[true, true, true, true, true, true, true, true, true, true, true, true, true, true, true, true, true, true, false, false, false, false, false, false, false] rfl rfl (any_of HT_.out (by kernel_rfl)) (fun _ _ _ h => h) (Or.inr ⟨by rfl, rfl⟩) ?_ ?_
             rotate_left
             ·simp only [Act.put, List.setIfInBounds_toArray, List.set_cons_zero, List.set_cons_succ, i64_w, i32_w]
              rfl
             refine pure_ (i := 18) (N := some 81) (v := undef) (a' := ?_) #[true, true, true, true, true, true, true, true, true, true, true, true, true, true, true, true, true, true, true, false, false, false, false, false, false] rfl rfl (any_of HT_.out (by kernel_rfl)) (fun _ _ _ h => h) (Or.inr ⟨by rfl, rfl⟩) ?_ ?_
             rotate_left
             ·simp only [Act.put, List.setIfInBounds_toArray, List.set_cons_zero, List.set_cons_succ, i64_w, i32_w]
              rfl
             refine pure_ (i := 19) (N := some 82) (v := undef) (a' := ?_) #[true, true, true, true, true, true, true, true, true, true, true, true, true, true, true, true, true, true, true, true, false, false, false, false, false] rfl rfl (any_of HT_.out (by kernel_rfl)) (fun _ _ _ h => h) (Or.inr ⟨by rfl, rfl⟩) ?_ ?_
             rotate_left
             ·simp only [Act.put, List.setIfInBounds_toArray, List.set_cons_zero, List.set_cons_succ, i64_w, i32_w]
              rfl
             refine pure_ (i := 20) (N := some 83) (v := undef) (a' := ?_) #[true, true, true, true, true, true, true, true, true, true, true, true, true, true, true, true, true, true, true, true, true, false, false, false, false] rfl rfl (any_of HT_.out (by kernel_rfl)) (fun _ _ _ h => h) (Or.inr ⟨by rfl, rfl⟩) ?_ ?_
             rotate_left
             ·simp only [Act.put, List.setIfInBounds_toArray, List.set_cons_zero, List.set_cons_succ, i64_w, i32_w]
              rfl
             refine pure_ (i := 21) (N := some 84) (v := undef) (a' := ?_) #[true, true, true, true, true, true, true, true, true, true, true, true, true, true, true, true, true, true, true, true, true, true, false, false, false] rfl rfl (any_of HT_.out (by kernel_rfl)) (fun _ _ _ h => h) (Or.inr ⟨by rfl, rfl⟩) ?_ ?_
             rotate_left
             ·simp only [Act.put, List.setIfInBounds_toArray, List.set_cons_zero, List.set_cons_succ, i64_w, i32_w]
              rfl
             refine pure_ (i := 22) (N := some 85) (v := undef) (a' := ?_) #[true, true, true, true, true, true, true, true, true, true, true, true, true, true, true, true, true, true, true, true, true, true, true, false, false] rfl rfl (any_of HT_.out (by kernel_rfl)) (fun _ _ _ h => h) (Or.inr ⟨by rfl, rfl⟩) ?_ ?_
             rotate_left
             ·simp only [Act.put, List.setIfInBounds_toArray, List.set_cons_zero, List.set_cons_succ, i64_w, i32_w]
              rfl
             refine pure_ (i := 23) (N := some 86) (v := ?_) (a' := ?_) #[true, true, true, true, true, true, true, true, true, true, true, true, true, true, true, true, true, true, true, true, true, true, true, true, false] rfl rfl (any_of HT_.out (by kernel_rfl)) (fun _ _ _ h => h) (Or.inl ⟨by rfl, ?_⟩) ?_ ?_
             rotate_left
             ·intro w'
              go_simp
              with_reducible rfl
             rotate_left
             ·simp only [Act.put, List.setIfInBounds_toArray, List.set_cons_zero, List.set_cons_succ, i64_w, i32_w]
              rfl
             refine pure_ (i := 24) (N := some 7) (v := ?_) (a' := ?_) #[true, true, true, true, true, true, true, true, true, true, true, true, true, true, true, true, true, true, true, true, true, true, true, true, true] rfl rfl (any_of HT_.out (by kernel_rfl)) (fun _ _ _ h => h) (Or.inl ⟨by rfl, ?_⟩) ?_ ?_
             rotate_left
             ·intro w'
              go_simp
              with_reducible rfl
             rotate_left
             ·simp only [Act.put, List.setIfInBounds_toArray, List.set_cons_zero, List.set_cons_succ, i64_w, i32_w]
              rfl
             refine done_ (done_of HT_.out (by kernel_rfl)) ?_
             try go_wp2
             go_roundg kj21
             case measure => have := HJ5.out; have := HK2.out; have := HJ21.out; omega
             case rel => exact ⟨(false), (x9_21), (wrap64 (x10_2 + 1)), (t300), (t301), (t302), (t303), (by first | rfl | (simp; done) | (simp [*]; done)), (by first | rfl | (simp; done) | (simp [*]; done)), (by first | rfl | (simp; done) | (simp [*]; done)), H', ⟨by have := HJ5.out; have := HK2.out; have := HJ21.out; omega⟩, ⟨by (with_reducible repeat (first | refine blk_drewN ?_ _ | refine blk_drew ?_ | refine blk_alloc ?_ _)); exact BK296.out⟩, ⟨by (with_reducible repeat (first | refine blk_drewN ?_ _ | refine blk_drew ?_ | refine blk_alloc ?_ _)); exact BK297.out⟩, ⟨by repeat (first | (with_reducible first | exact HB.out | apply below_alloc | apply pw_below_drewN | apply below_drew1 | refine below_set ?_ GE296.out | refine below_set ?_ GE297.out | refine below_set ?_ GE305.out) | exact HB.out)⟩⟩
           ·replace c33 := Bool.eq_false_iff.mpr c33
            subst c33
            have H1 : (chargeparklaw12_ChargerWelded.l0 kj21 l2 false x9_21 (wrap64 (x10_2 + 1)) a0_0 a0_1 a0_2 a0_3 a0_4 a0_5 a0_6 a0_7 t300 t301 t302 t303) = some r := by rw [if_neg (show ¬ (false = true) by decide)] at H; exact H
            clear H
            have H := H1
            clear H1
            have H' := Aside0.mk H
            clear H
            have hnb68 := NB305_296.out
            have hnc68 := NB296_305.out
            have hnb69 := NB305_297.out
            have hnc69 := NB297_305.out
            have hcz70_0 : wc.cell? ⟨gb305, 0, none⟩ = some (.int .i64 t300) := (blk_cell BK305.out 0).trans rfl
            have hcz70_1 : wc.cell? ⟨gb305, 1, none⟩ = some (.int .i64 t301) := (blk_cell BK305.out 1).trans rfl
            have hcz70_2 : wc.cell? ⟨gb305, 2, none⟩ = some (.int .i64 t302) := (blk_cell BK305.out 2).trans rfl
            have hcz70_3 : wc.cell? ⟨gb305, 3, none⟩ = some (.bool t303) := (blk_cell BK305.out 3).trans rfl
            have hfz70_0 := blk_frozen BK305.out 0
            have hfz70_1 := blk_frozen BK305.out 1
            have hfz70_2 := blk_frozen BK305.out 2
            have hfz70_3 := blk_frozen BK305.out 3
            have hnb71 := NB297_296.out
            have hnc71 := NB296_297.out
            have hcz72_0 : wc.cell? ⟨gb297, 0, none⟩ = some (.int .i64 x298000_2) := (blk_cell BK297.out 0).trans rfl
            have hcz72_1 : wc.cell? ⟨gb297, 1, none⟩ = some (.int .i64 x298001_2) := (blk_cell BK297.out 1).trans rfl
            have hcz72_2 : wc.cell? ⟨gb297, 2, none⟩ = some (.int .i64 x298002_2) := (blk_cell BK297.out 2).trans rfl
            have hcz72_3 : wc.cell? ⟨gb297, 3, none⟩ = some (.bool x298003_2) := (blk_cell BK297.out 3).trans rfl
            have hfz72_0 := blk_frozen BK297.out 0
            have hfz72_1 := blk_frozen BK297.out 1
            have hfz72_2 := blk_frozen BK297.out 2
            have hfz72_3 := blk_frozen BK297.out 3
            try go_wp2
            have n0_ : Aside0 (((((wc.setCell ⟨gb297, 0, none⟩ (.int .i64 t300)).setCell ⟨gb297, 1, none⟩ (.int .i64 t301)).setCell ⟨gb297, 2, none⟩ (.int .i64 t302)).setCell ⟨gb297, 3, none⟩ (.bool t303)).heap[gb296]? = some (.cells #[.string a0_0, .int .i64 a0_1, .int .i64 a0_2, .int .i64 a0_3, .int .i64 a0_4, .int .i64 a0_5, .int .i64 a0_6, .int .i64 a0_7] 23 (0, 0))) := ⟨by (with_reducible repeat (first | refine blk_drewN ?_ _ | refine blk_drew ?_ | refine blk_alloc ?_ _)); refine blk_far ?_ NB296_297.out _; (with_reducible repeat (first | refine blk_drewN ?_ _ | refine blk_drew ?_ | refine blk_alloc ?_ _)); refine blk_far ?_ NB296_297.out _; (with_reducible repeat (first | refine blk_drewN ?_ _ | refine blk_drew ?_ | refine blk_alloc ?_ _)); refine blk_far ?_ NB296_297.out _; (with_reducible repeat (first | refine blk_drewN ?_ _ | refine blk_drew ?_ | refine blk_alloc ?_ _)); refine blk_far ?_ NB296_297.out _; (with_reducible repeat (first | refine blk_drewN ?_ _ | refine blk_drew ?_ | refine blk_alloc ?_ _)); exact BK296.out⟩
            have n1_ : Aside0 (((((wc.setCell ⟨gb297, 0, none⟩ (.int .i64 t300)).setCell ⟨gb297, 1, none⟩ (.int .i64 t301)).setCell ⟨gb297, 2, none⟩ (.int .i64 t302)).setCell ⟨gb297, 3, none⟩ (.bool t303)).heap[gb297]? = some (.cells #[.int .i64 t300, .int .i64 t301, .int .i64 t302, .bool t303] 25 (0, 0))) := ⟨by (with_reducible repeat (first | refine blk_drewN ?_ _ | refine blk_drew ?_ | refine blk_alloc ?_ _)); refine blk_put (cs := #[.int .i64 t300, .int .i64 t301, .int .i64 t302, .bool x298003_2]) ?_ 3 _ rfl; (with_reducible repeat (first | refine blk_drewN ?_ _ | refine blk_drew ?_ | refine blk_alloc ?_ _)); refine blk_put (cs := #[.int .i64 t300, .int .i64 t301, .int .i64 x298002_2, .bool x298003_2]) ?_ 2 _ rfl; (with_reducible repeat (first | refine blk_drewN ?_ _ | refine blk_drew ?_ | refine blk_alloc ?_ _)); refine blk_put (cs := #[.int .i64 t300, .int .i64 x298001_2, .int .i64 x298002_2, .bool x298003_2]) ?_ 1 _ rfl; (with_reducible repeat (first | refine blk_drewN ?_ _ | refine blk_drew ?_ | refine blk_alloc ?_ _)); refine blk_put (cs := #[.int .i64 x298000_2, .int .i64 x298001_2, .int .i64 x298002_2, .bool x298003_2]) ?_ 0 _ rfl; (with_reducible repeat (first | refine blk_drewN ?_ _ | refine blk_drew ?_ | refine blk_alloc ?_ _)); exact BK297.out⟩
            have n2_ : Aside0 (((((wc.setCell ⟨gb297, 0, none⟩ (.int .i64 t300)).setCell ⟨gb297, 1, none⟩ (.int .i64 t301)).setCell ⟨gb297, 2, none⟩ (.int .i64 t302)).setCell ⟨gb297, 3, none⟩ (.bool t303)).heap[gb305]? = some (.cells #[.int .i64 t300, .int .i64 t301, .int .i64 t302, .bool t303] 25 (0, 0))) := ⟨by (with_reducible repeat (first | refine blk_drewN ?_ _ | refine blk_drew ?_ | refine blk_alloc ?_ _)); refine blk_far ?_ NB305_297.out _; (with_reducible repeat (first | refine blk_drewN ?_ _ | refine blk_drew ?_ | refine blk_alloc ?_ _)); refine blk_far ?_ NB305_297.out _; (with_reducible repeat (first | refine blk_drewN ?_ _ | refine blk_drew ?_ | refine blk_alloc ?_ _)); refine blk_far ?_ NB305_297.out _; (with_reducible repeat (first | refine blk_drewN ?_ _ | refine blk_drew ?_ | refine blk_alloc ?_ _)); refine blk_far ?_ NB305_297.out _; (with_reducible repeat (first | refine blk_drewN ?_ _ | refine blk_drew ?_ | refine blk_alloc ?_ _)); exact BK305.out⟩
            have n3_ : Aside0 (Below w.heap.size w ((((wc.setCell ⟨gb297, 0, none⟩ (.int .i64 t300)).setCell ⟨gb297, 1, none⟩ (.int .i64 t301)).setCell ⟨gb297, 2, none⟩ (.int .i64 t302)).setCell ⟨gb297, 3, none⟩ (.bool t303))) := ⟨by repeat (first | (with_reducible first | exact HB.out | apply below_alloc | apply pw_below_drewN | apply below_drew1 | refine below_set ?_ GE296.out | refine below_set ?_ GE297.out | refine below_set ?_ GE305.out) | exact HB.out)⟩
            (try clear BK296)
            (try clear BK297)
            (try clear BK305)
            (try clear HB)
            generalize ((((wc.setCell ⟨gb297, 0, none⟩ (.int .i64 t300)).setCell ⟨gb297, 1, none⟩ (.int .i64 t301)).setCell ⟨gb297, 2, none⟩ (.int .i64 t302)).setCell ⟨gb297, 3, none⟩ (.bool t303)) = w73 at n0_ n1_ n2_ n3_ ⊢
            have BK296 := n0_
            have BK297 := n1_
            have BK305 := n2_
            have HB := n3_
            clear n0_ n1_ n2_ n3_
            have n0_ := Aside0.mk (blk_drew BK296.out)
            have n1_ := Aside0.mk (blk_drew BK297.out)
            have n2_ := Aside0.mk (blk_drew BK305.out)
            have n3_ := Aside0.mk (below_drew1 HB.out)
            clear BK296
            clear BK297
            clear BK305
            clear HB
            have BK296 := n0_
            have BK297 := n1_
            have BK305 := n2_
            have HB := n3_
            clear n0_ n1_ n2_ n3_
            refine start_ (n := 25) (S := fun w' => True) (ds := []) #[false, false, false, false, false, false, false, false, false, false, false, false, false, false, false, false, false, false, false, false, false, false, false, false, false] (by kernel_rfl) rfl rfl trivial (fun hHeld => ?_); refine with_tabW chargeparklaw12_ChargerWelded.tab13 chargeparklaw12_ChargerWelded.bits13 (fun HT_ HW_ => ?_)
            generalize w73.drew = w74 at BK296 BK297 BK305 HB hHeld ⊢
            refine pure_ (i := 0) (N := some 63) (v := ?_) (a' := ?_) #[true, false, false, false, false, false, false, false, false, false, false, false, false, false, false, false, false, false, false, false, false, false, false, false, false] rfl rfl (any_of HT_.out (by kernel_rfl)) (fun _ _ _ h => h) (Or.inl ⟨by rfl, ?_⟩) ?_ ?_
            rotate_left
            ·intro w'
             go_simp
             with_reducible rfl
            rotate_left
            ·simp only [Act.put, List.setIfInBounds_toArray, List.set_cons_zero, List.set_cons_succ, i64_w, i32_w]
             rfl
            refine pure_ (i := 1) (N := some 64) (v := ?_) (a' := ?_) #[true, true, false, false, false, false, false, false, false, false, false, false, false, false, false, false, false, false, false, false, false, false, false, false, false] rfl rfl (any_of HT_.out (by kernel_rfl)) (fun _ _ _ h => h) (Or.inl ⟨by rfl, ?_⟩) ?_ ?_
            rotate_left
            ·intro w'
             go_simp
             with_reducible rfl
            rotate_left
            ·simp only [Act.put, List.setIfInBounds_toArray, List.set_cons_zero, List.set_cons_succ, i64_w, i32_w]
             rfl
            refine pure_ (i := 2) (N := some 65) (v := undef) (a' := ?_) #[true, true, true, false, false, false, false, false, false, false, false, false, false, false, false, false, false, false, false, false, false, false, false, false, false] rfl rfl (any_of HT_.out (by kernel_rfl)) (fun _ _ _ h => h) (Or.inr ⟨by rfl, rfl⟩) ?_ ?_
            rotate_left
            ·simp only [Act.put, List.setIfInBounds_toArray, List.set_cons_zero, List.set_cons_succ, i64_w, i32_w]
             rfl
            refine pure_ (i := 3) (N := some 66) (v := undef) (a' := ?_) #[true, true, true, true, false, false, false, false, false, false, false, false, false, false, false, false, false, false, false, false, false, false, false, false, false] rfl rfl (any_of HT_.out (by kernel_rfl)) (fun _ _ _ h => h) (Or.inr ⟨by rfl, rfl⟩) ?_ ?_
            rotate_left
            ·simp only [Act.put, List.setIfInBounds_toArray, List.set_cons_zero, List.set_cons_succ, i64_w, i32_w]
             rfl
            refine pure_ (i := 4) (N := some 67) (v := undef) (a' := ?_) #[true, true, true, true, true, false, false, false, false, false, false, false, false, false, false, false, false, false, false, false, false, false, false, false, false] rfl rfl (any_of HT_.out (by kernel_rfl)) (fun _ _ _ h => h) (Or.inr ⟨by rfl, rfl⟩) ?_ ?_
            rotate_left
            ·simp only [Act.put, List.setIfInBounds_toArray, List.set_cons_zero, List.set_cons_succ, i64_w, i32_w]
             rfl
            refine pure_ (i := 5) (N := some 68) (v := undef) (a' := ?_) #[true, true, true, true, true, true, false, false, false, false, false, false, false, false, false, false, false, false, false, false, false, false, false, false, false] rfl rfl (any_of HT_.out (by kernel_rfl)) (fun _ _ _ h => h) (Or.inr ⟨by rfl, rfl⟩) ?_ ?_
            rotate_left
            ·simp only [Act.put, List.setIfInBounds_toArray, List.set_cons_zero, List.set_cons_succ, i64_w, i32_w]
             rfl
            refine pure_ (i := 6) (N := some 69) (v := ?_) (a' := ?_) #[true, true, true, true, true, true, true, false, false, false, false, false, false, false, false, false, false, false, false, false, false, false, false, false, false] rfl rfl (any_of HT_.out (by kernel_rfl)) (fun _ _ _ h => h) (Or.inl ⟨by rfl, ?_⟩) ?_ ?_
            rotate_left
            ·intro w'
             go_simp
             with_reducible rfl
            rotate_left
            ·simp only [Act.put, List.setIfInBounds_toArray, List.set_cons_zero, List.set_cons_succ, i64_w, i32_w]
             rfl
            refine pure_ (i := 7) (N := some 70) (v := ?_) (a' := ?_) #[true, true, true, true, true, true, true, true, false, false, false, false, false, false, false, false, false, false, false, false, false, false, false, false, false] rfl rfl (any_of HT_.out (by kernel_rfl)) (fun _ _ _ h => h) (Or.inl ⟨by rfl, ?_⟩) ?_ ?_
            rotate_left
            ·intro w'
             go_simp
             with_reducible rfl
            rotate_left
            ·simp only [Act.put, List.setIfInBounds_toArray, List.set_cons_zero, List.set_cons_succ, i64_w, i32_w]
             rfl
            refine pure_ (i := 8) (N := some 71) (v := undef) (a' := ?_) #[true, true, true, true, true, true, true, true, true, false, false, false, false, false, false, false, false, false, false, false, false, false, false, false, false] rfl rfl (any_of HT_.out (by kernel_rfl)) (fun _ _ _ h => h) (Or.inr ⟨by rfl, rfl⟩) ?_ ?_
            rotate_left
            ·simp only [Act.put, List.setIfInBounds_toArray, List.set_cons_zero, List.set_cons_succ, i64_w, i32_w]
             rfl
            refine pure_ (i := 9) (N := some 72) (v := undef) (a' := ?_) #[true, true, true, true, true, true, true, true, true, true, false, false, false, false, false, false, false, false, false, false, false, false, false, false, false] rfl rfl (any_of HT_.out (by kernel_rfl)) (fun _ _ _ h => h) (Or.inr ⟨by rfl, rfl⟩) ?_ ?_
            rotate_left
            ·simp only [Act.put, List.setIfInBounds_toArray, List.set_cons_zero, List.set_cons_succ, i64_w, i32_w]
             rfl
            refine pure_ (i := 10) (N := some 73) (v := undef) (a' := ?_) #[true, true, true, true, true, true, true, true, true, true, true, false, false, false, false, false, false, false, false, false, false, false, false, false, false] rfl rfl (any_of HT_.out (by kernel_rfl)) (fun _ _ _ h => h) (Or.inr ⟨by rfl, rfl⟩) ?_ ?_
            rotate_left
            ·simp only [Act.put, List.setIfInBounds_toArray, List.set_cons_zero, List.set_cons_succ, i64_w, i32_w]
             rfl
            refine pure_ (i := 11) (N := some 74) (v := undef) (a' := ?_) #[true, true, true, true, true, true, true, true, true, true, true, true, false, false, false, false, false, false, false, false, false, false, false, false, false] rfl rfl (any_of HT_.out (by kernel_rfl)) (fun _ _ _ h => h) (Or.inr ⟨by rfl, rfl⟩) ?_ ?_
            rotate_left
            ·simp only [Act.put, List.setIfInBounds_toArray, List.set_cons_zero, List.set_cons_succ, i64_w, i32_w]
             rfl
            refine pure_ (i := 12) (N := some 75) (v := undef) (a' := ?_) #[true, true, true, true, true, true, true, true, true, true, true, true, true, false, false, false, false, false, false, false, false, false, false, false, false] rfl rfl (any_of HT_.out (by kernel_rfl)) (fun _ _ _ h => h) (Or.inr ⟨by rfl, rfl⟩) ?_ ?_
            rotate_left
            ·simp only [Act.put, List.setIfInBounds_toArray, List.set_cons_zero, List.set_cons_succ, i64_w, i32_w]
             rfl
            refine pure_ (i := 13) (N := some 76) (v := undef) (a' := ?_) #[true, true, true, true, true, true, true, true, true, true, true, true, true, true, false, false, false, false, false, false, false, false, false, false, false] rfl rfl (any_of HT_.out (by kernel_rfl)) (fun _ _ _ h => h) (Or.inr ⟨by rfl, rfl⟩) ?_ ?_
            rotate_left
            ·simp only [Act.put, List.setIfInBounds_toArray, List.set_cons_zero, List.set_cons_succ, i64_w, i32_w]
             rfl
            refine pure_ (i := 14) (N := some 77) (v := undef) (a' := ?_) #[true, true, true, true, true, true, true, true, true, true, true, true, true, true, true, false, false, false, false, false, false, false, false, false, false] rfl rfl (any_of HT_.out (by kernel_rfl)) (fun _ _ _ h => h) (Or.inr ⟨by rfl, rfl⟩) ?_ ?_
            rotate_left
            ·simp only [Act.put, List.setIfInBounds_toArray, List.set_cons_zero, List.set_cons_succ, i64_w, i32_w]
             rfl
            refine pure_ (i := 15) (N := some 78) (v := undef) (a' := ?_) #[true, true, true, true, true, true, true, true, true, true, true, true, true, true, true, true, false, false, false, false, false, false, false, false, false] rfl rfl (any_of HT_.out (by kernel_rfl)) (fun _ _ _ h => h) (Or.inr ⟨by rfl, rfl⟩) ?_ ?_
            rotate_left
            ·simp only [Act.put, List.setIfInBounds_toArray, List.set_cons_zero, List.set_cons_succ, i64_w, i32_w]
             rfl
            refine pure_ (i := 16) (N := some 79) (v := undef) (a' := ?_) #[true, true, true, true, true, true, true, true, true, true, true, true, true, true, true, true, true, false, false, false, false, false, false, false, false] rfl rfl (any_of HT_.out (by kernel_rfl)) (fun _ _ _ h => h) (Or.inr ⟨by rfl, rfl⟩) ?_ ?_
            rotate_left
            ·simp only [Act.put, List.setIfInBounds_toArray, List.set_cons_zero, List.set_cons_succ, i64_w, i32_w]
             rfl
            refine pure_ (i := 17) (N := some 80) (v := undef) (a' := ?_) #[true, true, true, true, true, true, true, true, true, true, true, true, true, true, true, true, true, true, false, false, false, false, false, false, false] rfl rfl (any_of HT_.out (by kernel_rfl)) (fun _ _ _ h => h) (Or.inr ⟨by rfl, rfl⟩) ?_ ?_
            rotate_left
            ·simp only [Act.put, List.setIfInBounds_toArray, List.set_cons_zero, List.set_cons_succ, i64_w, i32_w]
             rfl
            refine pure_ (i := 18) (N := some 81) (v := undef) (a' := ?_) #[true, true, true, true, true, true, true, true, true, true, true, true, true, true, true, true, true, true, true, false, false, false, false, false, false] rfl rfl (any_of HT_.out (by kernel_rfl)) (fun _ _ _ h => h) (Or.inr ⟨by rfl, rfl⟩) ?_ ?_
            rotate_left
            ·simp only [Act.put, List.setIfInBounds_toArray, List.set_cons_zero, List.set_cons_succ, i64_w, i32_w]
             rfl
            refine pure_ (i := 19) (N := some 82) (v := undef) (a' := ?_) #[true, true, true, true, true, true, true, true, true, true, true, true, true, true, true, true, true, true, true, true, false, false, false, false, false] rfl rfl (any_of HT_.out (by kernel_rfl)) (fun _ _ _ h => h) (Or.inr ⟨by rfl, rfl⟩) ?_ ?_
            rotate_left
            ·simp only [Act.put, List.setIfInBounds_toArray, List.set_cons_zero, List.set_cons_succ, i64_w, i32_w]
             rfl
            refine pure_ (i := 20) (N := some 83) (v := undef) (a' := ?_) #[true, true, true, true, true, true, true, true, true, true, true, true, true, true, true, true, true, true, true, true, true, false, false, false, false] rfl rfl (any_of HT_.out (by kernel_rfl)) (fun _ _ _ h => h) (Or.inr ⟨by rfl, rfl⟩) ?_ ?_
            rotate_left
            ·simp only [Act.put, List.setIfInBounds_toArray, List.set_cons_zero, List.set_cons_succ, i64_w, i32_w]
             rfl
            refine pure_ (i := 21) (N := some 84) (v := undef) (a' := ?_) #[true, true, true, true, true, true, true, true, true, true, true, true, true, true, true, true, true, true, true, true, true, true, false, false, false] rfl rfl (any_of HT_.out (by kernel_rfl)) (fun _ _ _ h => h) (Or.inr ⟨by rfl, rfl⟩) ?_ ?_
            rotate_left
            ·simp only [Act.put, List.setIfInBounds_toArray, List.set_cons_zero, List.set_cons_succ, i64_w, i32_w]
             rfl
            refine pure_ (i := 22) (N := some 85) (v := undef) (a' := ?_) #[true, true, true, true, true, true, true, true, true, true, true, true, true, true, true, true, true, true, true, true, true, true, true, false, false] rfl rfl (any_of HT_.out (by kernel_rfl)) (fun _ _ _ h => h) (Or.inr ⟨by rfl, rfl⟩) ?_ ?_
            rotate_left
            ·simp only [Act.put, List.setIfInBounds_toArray, List.set_cons_zero, List.set_cons_succ, i64_w, i32_w]
             rfl
            refine pure_ (i := 23) (N := some 86) (v := ?_) (a' := ?_) #[true, true, true, true, true, true, true, true, true, true, true, true, true, true, true, true, true, true, true, true, true, true, true, true, false] rfl rfl (any_of HT_.out (by kernel_rfl)) (fun _ _ _ h => h) (Or.inl ⟨by rfl, ?_⟩) ?_ ?_
            rotate_left
            ·intro w'
             go_simp
             with_reducible rfl
            rotate_left
            ·simp only [Act.put, List.setIfInBounds_toArray, List.set_cons_zero, List.set_cons_succ, i64_w, i32_w]
             rfl
            refine pure_ (i := 24) (N := some 7) (v := ?_) (a' := ?_) #[true, true, true, true, true, true, true, true, true, true, true, true, true, true, true, true, true, true, true, true, true, true, true, true, true] rfl rfl (any_of HT_.out (by kernel_rfl)) (fun _ _ _ h => h) (Or.inl ⟨by rfl, ?_⟩) ?_ ?_
            rotate_left
            ·intro w'
             go_simp
             with_reducible rfl
            rotate_left
            ·simp only [Act.put, List.setIfInBounds_toArray, List.set_cons_zero, List.set_cons_succ, i64_w, i32_w]
             rfl
            refine done_ (done_of HT_.out (by kernel_rfl)) ?_
            try go_wp2
            go_roundg kj21
            case measure => have := HJ5.out; have := HK2.out; have := HJ21.out; omega
            case rel => exact ⟨(false), (x9_21), (wrap64 (x10_2 + 1)), (t300), (t301), (t302), (t303), (by first | rfl | (simp; done) | (simp [*]; done)), (by first | rfl | (simp; done) | (simp [*]; done)), (by first | rfl | (simp; done) | (simp [*]; done)), H', ⟨by have := HJ5.out; have := HK2.out; have := HJ21.out; omega⟩, ⟨by (with_reducible repeat (first | refine blk_drewN ?_ _ | refine blk_drew ?_ | refine blk_alloc ?_ _)); exact BK296.out⟩, ⟨by (with_reducible repeat (first | refine blk_drewN ?_ _ | refine blk_drew ?_ | refine blk_alloc ?_ _)); exact BK297.out⟩, ⟨by repeat (first | (with_reducible first | exact HB.out | apply below_alloc | apply pw_below_drewN | apply below_drew1 | refine below_set ?_ GE296.out | refine below_set ?_ GE297.out | refine below_set ?_ GE305.out) | exact HB.out)⟩⟩
        ·rw [if_neg c21] at H
         have c21b0 : (t304 == 0) = false := beq_eq_false_iff_ne.mpr c21
         have c21b1 : (t304 != 0) = true := bne_iff_ne.mpr c21
         have H' := Aside0.mk H
         clear H
         try go_wp2
         have n0_ := Aside0.mk (blk_drew BK296.out)
         have n1_ := Aside0.mk (blk_drew BK297.out)
         have n2_ := Aside0.mk (below_drew1 HB.out)
         clear BK296
         clear BK297
         clear HB
         have BK296 := n0_
         have BK297 := n1_
         have HB := n2_
         clear n0_ n1_ n2_
         have p299 : 0 ≤ (x10_2 : Int) := of_decide_eq_true (by first | (with_reducible assumption) | assumption)
         have q299 : x10_2 < (l2.length : Int) := of_decide_eq_true (by first | (with_reducible assumption) | assumption)
         obtain ⟨ad299, e299, hx299_0, hx299_1, hx299_2⟩ := at_T27 HR2.out x10_2 p299 q299
         have hw299_2 := hx299_2
         have hw299_1 := hx299_1
         have hw299_0 := hx299_0
         cases e299
         replace hx299_0 := (HB.out.cell (World.block_lt_of_cell? w _ hx299_0)).trans hx299_0
         replace hx299_1 := (HB.out.cell (World.block_lt_of_cell? w _ hx299_1)).trans hx299_1
         replace hx299_2 := (HB.out.cell (World.block_lt_of_cell? w _ hx299_2)).trans hx299_2
         replace p299 := eq_true p299
         replace q299 := eq_true q299
         refine start_ (n := 13) (S := fun w' => w'.cell? ⟨gb296, 0, none⟩ = some (.string a0_0) ∧ w'.cell? ⟨gb296, 1, none⟩ = some (.int .i64 a0_1) ∧ w'.cell? ⟨gb296, 2, none⟩ = some (.int .i64 a0_2) ∧ w'.cell? ⟨gb296, 3, none⟩ = some (.int .i64 a0_3) ∧ w'.cell? ⟨gb296, 4, none⟩ = some (.int .i64 a0_4) ∧ w'.cell? ⟨gb296, 5, none⟩ = some (.int .i64 a0_5) ∧ w'.cell? ⟨gb296, 6, none⟩ = some (.int .i64 a0_6) ∧ w'.cell? ⟨gb296, 7, none⟩ = some (.int .i64 a0_7) ∧ w'.cell? ⟨gb297, 0, none⟩ = some (.int .i64 x298000_2) ∧ w'.cell? ⟨gb297, 1, none⟩ = some (.int .i64 x298001_2) ∧ w'.cell? ⟨gb297, 2, none⟩ = some (.int .i64 x298002_2) ∧ w'.cell? ⟨gb297, 3, none⟩ = some (.bool x298003_2) ∧ w'.cell? (ad299.add ((x10_2).toNat * 3)) = some (.int .i64 ((rd_T27 l2 x10_2).f0)) ∧ w'.cell? ⟨(ad299.add ((x10_2).toNat * 3)).block, (ad299.add ((x10_2).toNat * 3)).off + 1, none⟩ = some (.int .i64 ((rd_T27 l2 x10_2).f1)) ∧ w'.cell? ⟨(ad299.add ((x10_2).toNat * 3)).block, (ad299.add ((x10_2).toNat * 3)).off + 2, none⟩ = some (.int .i64 ((rd_T27 l2 x10_2).f2))) (ds := []) #[false, false, false, false, false, false, false, false, false, false, false, false, false] (by kernel_rfl) rfl rfl ⟨(blk_cell BK296.out 0).trans rfl, (blk_cell BK296.out 1).trans rfl, (blk_cell BK296.out 2).trans rfl, (blk_cell BK296.out 3).trans rfl, (blk_cell BK296.out 4).trans rfl, (blk_cell BK296.out 5).trans rfl, (blk_cell BK296.out 6).trans rfl, (blk_cell BK296.out 7).trans rfl, (blk_cell BK297.out 0).trans rfl, (blk_cell BK297.out 1).trans rfl, (blk_cell BK297.out 2).trans rfl, (blk_cell BK297.out 3).trans rfl, ((HB.out.cell (World.block_lt_of_cell? w _ hw299_0)).trans hw299_0), ((HB.out.cell (World.block_lt_of_cell? w _ hw299_1)).trans hw299_1), ((HB.out.cell (World.block_lt_of_cell? w _ hw299_2)).trans hw299_2)⟩ (fun hHeld => ?_); refine with_tabW chargeparklaw12_ChargerWelded.tab9 chargeparklaw12_ChargerWelded.bits9 (fun HT_ HW_ => ?_)
         generalize wr.drew = w75 at BK296 BK297 HB hx299_0 hx299_1 hx299_2 hHeld ⊢
         refine pure_ (i := 2) (N := some 36) (v := ?_) (a' := ?_) #[false, false, true, false, false, false, false, false, false, false, false, false, false] rfl rfl (any_of HT_.out (by kernel_rfl)) (fun _ _ _ h => h) (Or.inl ⟨by rfl, ?_⟩) ?_ ?_
         rotate_left
         ·intro w'
          go_simp
          with_reducible rfl
         rotate_left
         ·simp only [Act.put, List.setIfInBounds_toArray, List.set_cons_zero, List.set_cons_succ, i64_w, i32_w]
          rfl
         refine pure_ (i := 3) (N := some 37) (v := ?_) (a' := ?_) #[false, false, true, true, false, false, false, false, false, false, false, false, false] rfl rfl (any_of HT_.out (by kernel_rfl)) (fun _ _ _ h => h) (Or.inl ⟨by rfl, ?_⟩) ?_ ?_
         rotate_left
         ·intro w'
          go_simp
          with_reducible rfl
         rotate_left
         ·simp only [Act.put, List.setIfInBounds_toArray, List.set_cons_zero, List.set_cons_succ, i64_w, i32_w]
          rfl
         refine pure_ (i := 4) (N := some 38) (v := ?_) (a' := ?_) #[false, false, true, true, true, false, false, false, false, false, false, false, false] rfl rfl (any_of HT_.out (by kernel_rfl)) (fun _ _ _ h => h) (Or.inl ⟨by rfl, ?_⟩) ?_ ?_
         rotate_left
         ·intro w'
          go_simp
          with_reducible rfl
         rotate_left
         ·simp only [Act.put, List.setIfInBounds_toArray, List.set_cons_zero, List.set_cons_succ, i64_w, i32_w]
          rfl
         refine take_ (i := 0) (N := some 34) (v := ?_) (a' := ?_) #[true, false, true, true, true, false, false, false, false, false, false, false, false] rfl rfl (take_ofW HT_.out HW_.out (by kernel_rfl)) (fun _ _ _ h => h) (Or.inl ⟨by rfl, ?_⟩) hHeld ?_ ?_
         rotate_left
         ·rintro w' ⟨s0, s1, s2, s3, s4, s5, s6, s7, s8, s9, s10, s11, s12, s13, s14⟩
          go_simp
          with_reducible rfl
         rotate_left
         ·simp only [Act.put, List.setIfInBounds_toArray, List.set_cons_zero, List.set_cons_succ, i64_w, i32_w]
          rfl
         refine take_ (i := 1) (N := some 35) (v := ?_) (a' := ?_) #[true, true, true, true, true, false, false, false, false, false, false, false, false] rfl rfl (take_ofW HT_.out HW_.out (by kernel_rfl)) (fun _ _ _ h => h) (Or.inl ⟨by rfl, ?_⟩) hHeld ?_ ?_
         rotate_left
         ·rintro w' ⟨s0, s1, s2, s3, s4, s5, s6, s7, s8, s9, s10, s11, s12, s13, s14⟩
          go_simp
          with_reducible rfl
         rotate_left
         ·simp only [Act.put, List.setIfInBounds_toArray, List.set_cons_zero, List.set_cons_succ, i64_w, i32_w]
          rfl
         refine take_ (i := 5) (N := some 39) (v := ?_) (a' := ?_) #[true, true, true, true, true, true, false, false, false, false, false, false, false] rfl rfl (take_ofW HT_.out HW_.out (by kernel_rfl)) (fun _ _ _ h => h) (Or.inl ⟨by rfl, ?_⟩) hHeld ?_ ?_
         rotate_left
         ·rintro w' ⟨s0, s1, s2, s3, s4, s5, s6, s7, s8, s9, s10, s11, s12, s13, s14⟩
          go_simp
          with_reducible rfl
         rotate_left
         ·simp only [Act.put, List.setIfInBounds_toArray, List.set_cons_zero, List.set_cons_succ, i64_w, i32_w]
          rfl
         refine join_ (σ := Nat) 2 #[true, true, true, true, true, true, true, true, true, true, true, false, false] (fun s_ => [(40, .tuple #[.agg #[.int .i64 t300, .int .i64 t301, .int .i64 t302, .bool t303], .int .i64 t304]), (11, .pointer (some ⟨s_, 0, none⟩)), (33, .tuple #[.agg #[.int .i64 t300, .int .i64 t301, .int .i64 t302, .bool t303], .int .i64 t304]), (41, .agg #[.int .i64 t300, .int .i64 t301, .int .i64 t302, .bool t303]), (42, .int .i64 t304)]) (fun s_ w' => (w'.cell? ⟨gb296, 0, none⟩ = some (.string a0_0) ∧ w'.cell? ⟨gb296, 1, none⟩ = some (.int .i64 a0_1) ∧ w'.cell? ⟨gb296, 2, none⟩ = some (.int .i64 a0_2) ∧ w'.cell? ⟨gb296, 3, none⟩ = some (.int .i64 a0_3) ∧ w'.cell? ⟨gb296, 4, none⟩ = some (.int .i64 a0_4) ∧ w'.cell? ⟨gb296, 5, none⟩ = some (.int .i64 a0_5) ∧ w'.cell? ⟨gb296, 6, none⟩ = some (.int .i64 a0_6) ∧ w'.cell? ⟨gb296, 7, none⟩ = some (.int .i64 a0_7) ∧ w'.cell? ⟨gb297, 0, none⟩ = some (.int .i64 x298000_2) ∧ w'.cell? ⟨gb297, 1, none⟩ = some (.int .i64 x298001_2) ∧ w'.cell? ⟨gb297, 2, none⟩ = some (.int .i64 x298002_2) ∧ w'.cell? ⟨gb297, 3, none⟩ = some (.bool x298003_2) ∧ w'.cell? (ad299.add ((x10_2).toNat * 3)) = some (.int .i64 ((rd_T27 l2 x10_2).f0)) ∧ w'.cell? ⟨(ad299.add ((x10_2).toNat * 3)).block, (ad299.add ((x10_2).toNat * 3)).off + 1, none⟩ = some (.int .i64 ((rd_T27 l2 x10_2).f1)) ∧ w'.cell? ⟨(ad299.add ((x10_2).toNat * 3)).block, (ad299.add ((x10_2).toNat * 3)).off + 2, none⟩ = some (.int .i64 ((rd_T27 l2 x10_2).f2))) ∧ (w'.heap[gb296]? = some (.cells #[.string a0_0, .int .i64 a0_1, .int .i64 a0_2, .int .i64 a0_3, .int .i64 a0_4, .int .i64 a0_5, .int .i64 a0_6, .int .i64 a0_7] 23 (0, 0))) ∧ (w'.heap[gb297]? = some (.cells #[.int .i64 x298000_2, .int .i64 x298001_2, .int .i64 x298002_2, .bool x298003_2] 25 (0, 0))) ∧ (w'.heap[s_]? = some (.cells #[.int .i64 0, .int .i64 0, .int .i64 0, .bool false] 25 (0, 0))) ∧ (w.heap.size ≤ s_) ∧ (w.heap.size ≤ s_) ∧ (gb296 ≠ s_) ∧ (s_ ≠ gb296) ∧ (gb297 ≠ s_) ∧ (s_ ≠ gb297) ∧ (Below w.heap.size w w')) ?_ ?_
         rotate_left
         ·intro hCont
          refine two_ (i := 6) (j := 10) (Ni := some 40) (Nj := some 11) #[true, true, true, true, true, true, true, false, false, false, false, false, false] #[true, true, true, true, true, true, false, false, false, false, true, false, false] rfl rfl rfl rfl (two_of HT_.out (by kernel_rfl)) (by decide) (by decide) (fun K hK => ?_) (fun K hK => ?_)
          ·skip
           refine goes_ Tryd.func11 (by kernel_rfl) rfl #[.agg #[.string a0_0, .int .i64 a0_1, .int .i64 a0_2, .int .i64 a0_3, .int .i64 a0_4, .int .i64 a0_5, .int .i64 a0_6, .int .i64 a0_7], .agg #[.int .i64 x298000_2, .int .i64 x298001_2, .int .i64 x298002_2, .bool x298003_2], .agg #[.int .i64 ((rd_T27 l2 x10_2).f0), .int .i64 ((rd_T27 l2 x10_2).f1), .int .i64 ((rd_T27 l2 x10_2).f2)]] (by rfl) rfl rfl (by (try simp only [List.map_toArray, List.map_cons, List.map_nil]); first | done | rfl | (simp only [List.length_drop, List.length_take]; rfl)) ?_
           with_reducible refine (charger_Step.calls a0_0 a0_1 a0_2 a0_3 a0_4 a0_5 a0_6 a0_7 x298000_2 x298001_2 x298002_2 x298003_2 ((rd_T27 l2 x10_2).f0) ((rd_T27 l2 x10_2).f1) ((rd_T27 l2 x10_2).f2) t300 t301 t302 t303 t304 _ (hG.below (by repeat (first | (with_reducible first | exact HB.out | apply below_alloc | apply pw_below_drewN | apply below_drew1) | exact HB.out | (refine Below.setCell ?_ (Aside0.out (by assumption)) _)))) A20.out).mono ?_
           rintro e w76 ⟨rfl, hb⟩
           refine ⟨_, rfl, ?_⟩
           have n0_ := Aside0.mk (blk_below (g := gb296) (o := .cells #[.string a0_0, .int .i64 a0_1, .int .i64 a0_2, .int .i64 a0_3, .int .i64 a0_4, .int .i64 a0_5, .int .i64 a0_6, .int .i64 a0_7] 23 (0, 0)) (by (with_reducible repeat (first | refine blk_drewN ?_ _ | refine blk_drew ?_ | refine blk_alloc ?_ _)); exact BK296.out) hb)
           have n1_ := Aside0.mk (blk_below (g := gb297) (o := .cells #[.int .i64 x298000_2, .int .i64 x298001_2, .int .i64 x298002_2, .bool x298003_2] 25 (0, 0)) (by (with_reducible repeat (first | refine blk_drewN ?_ _ | refine blk_drew ?_ | refine blk_alloc ?_ _)); exact BK297.out) hb)
           have n2_ := Aside0.mk (below_step (by repeat (first | (with_reducible first | exact HB.out | apply below_alloc | apply pw_below_drewN | apply below_drew1 | refine below_set ?_ GE296.out | refine below_set ?_ GE297.out) | exact HB.out)) hb)
           clear BK296
           clear BK297
           clear HB
           have BK296 := n0_
           have BK297 := n1_
           have HB := n2_
           clear n0_ n1_ n2_
           (try clear hb)
           (try clear hb2)
           (try clear hk)
           (try clear hi)
           refine hK.out _ _ ⟨(blk_cell BK296.out 0).trans rfl, (blk_cell BK296.out 1).trans rfl, (blk_cell BK296.out 2).trans rfl, (blk_cell BK296.out 3).trans rfl, (blk_cell BK296.out 4).trans rfl, (blk_cell BK296.out 5).trans rfl, (blk_cell BK296.out 6).trans rfl, (blk_cell BK296.out 7).trans rfl, (blk_cell BK297.out 0).trans rfl, (blk_cell BK297.out 1).trans rfl, (blk_cell BK297.out 2).trans rfl, (blk_cell BK297.out 3).trans rfl, ((HB.out.cell (World.block_lt_of_cell? w _ hw299_0)).trans hw299_0), ((HB.out.cell (World.block_lt_of_cell? w _ hw299_1)).trans hw299_1), ((HB.out.cell (World.block_lt_of_cell? w _ hw299_2)).trans hw299_2)⟩ (fun hHeld => ?_)
           clear hK K
           refine norm_ (a' := ?_) ?_ ?_
           rotate_left
           ·show Act.put _ (some 40) _ = _
            simp only [Act.put, List.setIfInBounds_toArray, List.set_cons_zero, List.set_cons_succ, i64_w, i32_w]
            rfl
           refine pure_ (i := 7) (N := some 33) (v := ?_) (a' := ?_) #[true, true, true, true, true, true, true, true, false, false, false, false, false] rfl rfl (any_of HT_.out (by kernel_rfl)) (fun _ _ _ h => h) (Or.inl ⟨by rfl, ?_⟩) ?_ ?_
           rotate_left
           ·intro w'
            go_simp
            with_reducible rfl
           rotate_left
           ·simp only [Act.put, List.setIfInBounds_toArray, List.set_cons_zero, List.set_cons_succ, i64_w, i32_w]
            rfl
           refine pure_ (i := 8) (N := some 41) (v := ?_) (a' := ?_) #[true, true, true, true, true, true, true, true, true, false, false, false, false] rfl rfl (any_of HT_.out (by kernel_rfl)) (fun _ _ _ h => h) (Or.inl ⟨by rfl, ?_⟩) ?_ ?_
           rotate_left
           ·intro w'
            go_simp
            with_reducible rfl
           rotate_left
           ·simp only [Act.put, List.setIfInBounds_toArray, List.set_cons_zero, List.set_cons_succ, i64_w, i32_w]
            rfl
           refine pure_ (i := 9) (N := some 42) (v := ?_) (a' := ?_) #[true, true, true, true, true, true, true, true, true, true, false, false, false] rfl rfl (any_of HT_.out (by kernel_rfl)) (fun _ _ _ h => h) (Or.inl ⟨by rfl, ?_⟩) ?_ ?_
           rotate_left
           ·intro w'
            go_simp
            with_reducible rfl
           rotate_left
           ·simp only [Act.put, List.setIfInBounds_toArray, List.set_cons_zero, List.set_cons_succ, i64_w, i32_w]
            rfl
           refine one_ (i := 10) (N := some 11) #[true, true, true, true, true, true, true, true, true, true, true, false, false] rfl rfl (one_of HT_.out (by kernel_rfl)) (by decide) (fun K hK => ?_)
           refine box_step ?hg (N := 11) ?hd (cs := #[.int .i64 0, .int .i64 0, .int .i64 0, .bool false]) (t := 25) ?hr ?_; (case hd => rfl); (case hg => rfl); (case hr => first | (go_simp; done) | (go_simp; rfl))
           intro gb305 hg w77 hbox hb
           have n0_ := Aside0.mk (blk_below (g := gb296) (o := .cells #[.string a0_0, .int .i64 a0_1, .int .i64 a0_2, .int .i64 a0_3, .int .i64 a0_4, .int .i64 a0_5, .int .i64 a0_6, .int .i64 a0_7] 23 (0, 0)) (by (with_reducible repeat (first | refine blk_drewN ?_ _ | refine blk_drew ?_ | refine blk_alloc ?_ _)); exact BK296.out) hb)
           have n1_ := Aside0.mk (blk_below (g := gb297) (o := .cells #[.int .i64 x298000_2, .int .i64 x298001_2, .int .i64 x298002_2, .bool x298003_2] 25 (0, 0)) (by (with_reducible repeat (first | refine blk_drewN ?_ _ | refine blk_drew ?_ | refine blk_alloc ?_ _)); exact BK297.out) hb)
           have n2_ := Aside0.mk (below_step (by repeat (first | (with_reducible first | exact HB.out | apply below_alloc | apply pw_below_drewN | apply below_drew1 | refine below_set ?_ GE296.out | refine below_set ?_ GE297.out) | exact HB.out)) hb)
           have n3_ := Aside0.mk (hbox)
           have n4_ := Aside0.mk ((by rw [hg]; exact (below_size (by repeat (first | (with_reducible first | exact HB.out | apply below_alloc | apply pw_below_drewN | apply below_drew1 | refine below_set ?_ GE296.out | refine below_set ?_ GE297.out) | exact HB.out))) : w.heap.size ≤ gb305))
           have n5_ := Aside0.mk ((by rw [hg]; exact (below_size (by repeat (first | (with_reducible first | exact HB.out | apply below_alloc | apply pw_below_drewN | apply below_drew1 | refine below_set ?_ GE296.out | refine below_set ?_ GE297.out) | exact HB.out))) : w.heap.size ≤ gb305))
           have n6_ := Aside0.mk ((by rw [hg]; exact Nat.ne_of_lt (blk_lt (g := gb296) (o := .cells #[.string a0_0, .int .i64 a0_1, .int .i64 a0_2, .int .i64 a0_3, .int .i64 a0_4, .int .i64 a0_5, .int .i64 a0_6, .int .i64 a0_7] 23 (0, 0)) (by (with_reducible repeat (first | refine blk_drewN ?_ _ | refine blk_drew ?_ | refine blk_alloc ?_ _)); exact BK296.out)) : gb296 ≠ gb305))
           have n7_ := Aside0.mk ((by rw [hg]; exact Nat.ne_of_gt (blk_lt (g := gb296) (o := .cells #[.string a0_0, .int .i64 a0_1, .int .i64 a0_2, .int .i64 a0_3, .int .i64 a0_4, .int .i64 a0_5, .int .i64 a0_6, .int .i64 a0_7] 23 (0, 0)) (by (with_reducible repeat (first | refine blk_drewN ?_ _ | refine blk_drew ?_ | refine blk_alloc ?_ _)); exact BK296.out)) : gb305 ≠ gb296))
           have n8_ := Aside0.mk ((by rw [hg]; exact Nat.ne_of_lt (blk_lt (g := gb297) (o := .cells #[.int .i64 x298000_2, .int .i64 x298001_2, .int .i64 x298002_2, .bool x298003_2] 25 (0, 0)) (by (with_reducible repeat (first | refine blk_drewN ?_ _ | refine blk_drew ?_ | refine blk_alloc ?_ _)); exact BK297.out)) : gb297 ≠ gb305))
           have n9_ := Aside0.mk ((by rw [hg]; exact Nat.ne_of_gt (blk_lt (g := gb297) (o := .cells #[.int .i64 x298000_2, .int .i64 x298001_2, .int .i64 x298002_2, .bool x298003_2] 25 (0, 0)) (by (with_reducible repeat (first | refine blk_drewN ?_ _ | refine blk_drew ?_ | refine blk_alloc ?_ _)); exact BK297.out)) : gb305 ≠ gb297))
           clear BK296
           clear BK297
           clear HB
           have BK296 := n0_
           have BK297 := n1_
           have HB := n2_
           have BK305 := n3_
           have GW305 := n4_
           have GE305 := n5_
           have NB296_305 := n6_
           have NB305_296 := n7_
           have NB297_305 := n8_
           have NB305_297 := n9_
           clear n0_ n1_ n2_ n3_ n4_ n5_ n6_ n7_ n8_ n9_
           clear hb hbox hg
           refine hK.out _ _ ⟨(blk_cell BK296.out 0).trans rfl, (blk_cell BK296.out 1).trans rfl, (blk_cell BK296.out 2).trans rfl, (blk_cell BK296.out 3).trans rfl, (blk_cell BK296.out 4).trans rfl, (blk_cell BK296.out 5).trans rfl, (blk_cell BK296.out 6).trans rfl, (blk_cell BK296.out 7).trans rfl, (blk_cell BK297.out 0).trans rfl, (blk_cell BK297.out 1).trans rfl, (blk_cell BK297.out 2).trans rfl, (blk_cell BK297.out 3).trans rfl, ((HB.out.cell (World.block_lt_of_cell? w _ hw299_0)).trans hw299_0), ((HB.out.cell (World.block_lt_of_cell? w _ hw299_1)).trans hw299_1), ((HB.out.cell (World.block_lt_of_cell? w _ hw299_2)).trans hw299_2)⟩ (fun hHeld => ?_)
           clear hK K
           refine norm_ (a' := ?_) ?_ ?_
           rotate_left
           ·show Act.put _ (some 11) _ = _
            simp only [Act.put, List.setIfInBounds_toArray, List.set_cons_zero, List.set_cons_succ, i64_w, i32_w]
            rfl
           exact norm_ (by simp only [putAll, Act.put, List.setIfInBounds_toArray, List.set_cons_zero, List.set_cons_succ]) (hCont (gb305) _ ⟨hHeld, (by (with_reducible repeat (first | refine blk_drewN ?_ _ | refine blk_drew ?_ | refine blk_alloc ?_ _)); exact BK296.out), (by (with_reducible repeat (first | refine blk_drewN ?_ _ | refine blk_drew ?_ | refine blk_alloc ?_ _)); exact BK297.out), (by (with_reducible repeat (first | refine blk_drewN ?_ _ | refine blk_drew ?_ | refine blk_alloc ?_ _)); exact BK305.out), GW305.out, GE305.out, NB296_305.out, NB305_296.out, NB297_305.out, NB305_297.out, (by repeat (first | (with_reducible first | exact HB.out | apply below_alloc | apply pw_below_drewN | apply below_drew1 | refine below_set ?_ GE296.out | refine below_set ?_ GE297.out | refine below_set ?_ GE305.out) | exact HB.out))⟩)
          ·skip
           refine box_step ?hg (N := 11) ?hd (cs := #[.int .i64 0, .int .i64 0, .int .i64 0, .bool false]) (t := 25) ?hr ?_; (case hd => rfl); (case hg => rfl); (case hr => first | (go_simp; done) | (go_simp; rfl))
           intro gb305 hg w76 hbox hb
           have n0_ := Aside0.mk (blk_below (g := gb296) (o := .cells #[.string a0_0, .int .i64 a0_1, .int .i64 a0_2, .int .i64 a0_3, .int .i64 a0_4, .int .i64 a0_5, .int .i64 a0_6, .int .i64 a0_7] 23 (0, 0)) (by (with_reducible repeat (first | refine blk_drewN ?_ _ | refine blk_drew ?_ | refine blk_alloc ?_ _)); exact BK296.out) hb)
           have n1_ := Aside0.mk (blk_below (g := gb297) (o := .cells #[.int .i64 x298000_2, .int .i64 x298001_2, .int .i64 x298002_2, .bool x298003_2] 25 (0, 0)) (by (with_reducible repeat (first | refine blk_drewN ?_ _ | refine blk_drew ?_ | refine blk_alloc ?_ _)); exact BK297.out) hb)
           have n2_ := Aside0.mk (below_step (by repeat (first | (with_reducible first | exact HB.out | apply below_alloc | apply pw_below_drewN | apply below_drew1 | refine below_set ?_ GE296.out | refine below_set ?_ GE297.out) | exact HB.out)) hb)
           have n3_ := Aside0.mk (hbox)
           have n4_ := Aside0.mk ((by rw [hg]; exact (below_size (by repeat (first | (with_reducible first | exact HB.out | apply below_alloc | apply pw_below_drewN | apply below_drew1 | refine below_set ?_ GE296.out | refine below_set ?_ GE297.out) | exact HB.out))) : w.heap.size ≤ gb305))
           have n5_ := Aside0.mk ((by rw [hg]; exact (below_size (by repeat (first | (with_reducible first | exact HB.out | apply below_alloc | apply pw_below_drewN | apply below_drew1 | refine below_set ?_ GE296.out | refine below_set ?_ GE297.out) | exact HB.out))) : w.heap.size ≤ gb305))
           have n6_ := Aside0.mk ((by rw [hg]; exact Nat.ne_of_lt (blk_lt (g := gb296) (o := .cells #[.string a0_0, .int .i64 a0_1, .int .i64 a0_2, .int .i64 a0_3, .int .i64 a0_4, .int .i64 a0_5, .int .i64 a0_6, .int .i64 a0_7] 23 (0, 0)) (by (with_reducible repeat (first | refine blk_drewN ?_ _ | refine blk_drew ?_ | refine blk_alloc ?_ _)); exact BK296.out)) : gb296 ≠ gb305))
           have n7_ := Aside0.mk ((by rw [hg]; exact Nat.ne_of_gt (blk_lt (g := gb296) (o := .cells #[.string a0_0, .int .i64 a0_1, .int .i64 a0_2, .int .i64 a0_3, .int .i64 a0_4, .int .i64 a0_5, .int .i64 a0_6, .int .i64 a0_7] 23 (0, 0)) (by (with_reducible repeat (first | refine blk_drewN ?_ _ | refine blk_drew ?_ | refine blk_alloc ?_ _)); exact BK296.out)) : gb305 ≠ gb296))
           have n8_ := Aside0.mk ((by rw [hg]; exact Nat.ne_of_lt (blk_lt (g := gb297) (o := .cells #[.int .i64 x298000_2, .int .i64 x298001_2, .int .i64 x298002_2, .bool x298003_2] 25 (0, 0)) (by (with_reducible repeat (first | refine blk_drewN ?_ _ | refine blk_drew ?_ | refine blk_alloc ?_ _)); exact BK297.out)) : gb297 ≠ gb305))
           have n9_ := Aside0.mk ((by rw [hg]; exact Nat.ne_of_gt (blk_lt (g := gb297) (o := .cells #[.int .i64 x298000_2, .int .i64 x298001_2, .int .i64 x298002_2, .bool x298003_2] 25 (0, 0)) (by (with_reducible repeat (first | refine blk_drewN ?_ _ | refine blk_drew ?_ | refine blk_alloc ?_ _)); exact BK297.out)) : gb305 ≠ gb297))
           clear BK296
           clear BK297
           clear HB
           have BK296 := n0_
           have BK297 := n1_
           have HB := n2_
           have BK305 := n3_
           have GW305 := n4_
           have GE305 := n5_
           have NB296_305 := n6_
           have NB305_296 := n7_
           have NB297_305 := n8_
           have NB305_297 := n9_
           clear n0_ n1_ n2_ n3_ n4_ n5_ n6_ n7_ n8_ n9_
           clear hb hbox hg
           refine hK.out _ _ ⟨(blk_cell BK296.out 0).trans rfl, (blk_cell BK296.out 1).trans rfl, (blk_cell BK296.out 2).trans rfl, (blk_cell BK296.out 3).trans rfl, (blk_cell BK296.out 4).trans rfl, (blk_cell BK296.out 5).trans rfl, (blk_cell BK296.out 6).trans rfl, (blk_cell BK296.out 7).trans rfl, (blk_cell BK297.out 0).trans rfl, (blk_cell BK297.out 1).trans rfl, (blk_cell BK297.out 2).trans rfl, (blk_cell BK297.out 3).trans rfl, ((HB.out.cell (World.block_lt_of_cell? w _ hw299_0)).trans hw299_0), ((HB.out.cell (World.block_lt_of_cell? w _ hw299_1)).trans hw299_1), ((HB.out.cell (World.block_lt_of_cell? w _ hw299_2)).trans hw299_2)⟩ (fun hHeld => ?_)
           clear hK K
           refine norm_ (a' := ?_) ?_ ?_
           rotate_left
           ·show Act.put _ (some 11) _ = _
            simp only [Act.put, List.setIfInBounds_toArray, List.set_cons_zero, List.set_cons_succ, i64_w, i32_w]
            rfl
           refine one_ (i := 6) (N := some 40) #[true, true, true, true, true, true, true, false, false, false, true, false, false] rfl rfl (one_of HT_.out (by kernel_rfl)) (by decide) (fun K hK => ?_)
           refine goes_ Tryd.func11 (by kernel_rfl) rfl #[.agg #[.string a0_0, .int .i64 a0_1, .int .i64 a0_2, .int .i64 a0_3, .int .i64 a0_4, .int .i64 a0_5, .int .i64 a0_6, .int .i64 a0_7], .agg #[.int .i64 x298000_2, .int .i64 x298001_2, .int .i64 x298002_2, .bool x298003_2], .agg #[.int .i64 ((rd_T27 l2 x10_2).f0), .int .i64 ((rd_T27 l2 x10_2).f1), .int .i64 ((rd_T27 l2 x10_2).f2)]] (by rfl) rfl rfl (by (try simp only [List.map_toArray, List.map_cons, List.map_nil]); first | done | rfl | (simp only [List.length_drop, List.length_take]; rfl)) ?_
           with_reducible refine (charger_Step.calls a0_0 a0_1 a0_2 a0_3 a0_4 a0_5 a0_6 a0_7 x298000_2 x298001_2 x298002_2 x298003_2 ((rd_T27 l2 x10_2).f0) ((rd_T27 l2 x10_2).f1) ((rd_T27 l2 x10_2).f2) t300 t301 t302 t303 t304 _ (hG.below (by repeat (first | (with_reducible first | exact HB.out | apply below_alloc | apply pw_below_drewN | apply below_drew1) | exact HB.out | (refine Below.setCell ?_ (Aside0.out (by assumption)) _)))) A20.out).mono ?_
           rintro e w77 ⟨rfl, hb⟩
           refine ⟨_, rfl, ?_⟩
           have n0_ := Aside0.mk (blk_below (g := gb296) (o := .cells #[.string a0_0, .int .i64 a0_1, .int .i64 a0_2, .int .i64 a0_3, .int .i64 a0_4, .int .i64 a0_5, .int .i64 a0_6, .int .i64 a0_7] 23 (0, 0)) (by (with_reducible repeat (first | refine blk_drewN ?_ _ | refine blk_drew ?_ | refine blk_alloc ?_ _)); exact BK296.out) hb)
           have n1_ := Aside0.mk (blk_below (g := gb297) (o := .cells #[.int .i64 x298000_2, .int .i64 x298001_2, .int .i64 x298002_2, .bool x298003_2] 25 (0, 0)) (by (with_reducible repeat (first | refine blk_drewN ?_ _ | refine blk_drew ?_ | refine blk_alloc ?_ _)); exact BK297.out) hb)
           have n2_ := Aside0.mk (blk_below (g := gb305) (o := .cells #[.int .i64 0, .int .i64 0, .int .i64 0, .bool false] 25 (0, 0)) (by (with_reducible repeat (first | refine blk_drewN ?_ _ | refine blk_drew ?_ | refine blk_alloc ?_ _)); exact BK305.out) hb)
           have n3_ := Aside0.mk (below_step (by repeat (first | (with_reducible first | exact HB.out | apply below_alloc | apply pw_below_drewN | apply below_drew1 | refine below_set ?_ GE296.out | refine below_set ?_ GE297.out | refine below_set ?_ GE305.out) | exact HB.out)) hb)
           clear BK296
           clear BK297
           clear BK305
           clear HB
           have BK296 := n0_
           have BK297 := n1_
           have BK305 := n2_
           have HB := n3_
           clear n0_ n1_ n2_ n3_
           (try clear hb)
           (try clear hb2)
           (try clear hk)
           (try clear hi)
           refine hK.out _ _ ⟨(blk_cell BK296.out 0).trans rfl, (blk_cell BK296.out 1).trans rfl, (blk_cell BK296.out 2).trans rfl, (blk_cell BK296.out 3).trans rfl, (blk_cell BK296.out 4).trans rfl, (blk_cell BK296.out 5).trans rfl, (blk_cell BK296.out 6).trans rfl, (blk_cell BK296.out 7).trans rfl, (blk_cell BK297.out 0).trans rfl, (blk_cell BK297.out 1).trans rfl, (blk_cell BK297.out 2).trans rfl, (blk_cell BK297.out 3).trans rfl, ((HB.out.cell (World.block_lt_of_cell? w _ hw299_0)).trans hw299_0), ((HB.out.cell (World.block_lt_of_cell? w _ hw299_1)).trans hw299_1), ((HB.out.cell (World.block_lt_of_cell? w _ hw299_2)).trans hw299_2)⟩ (fun hHeld => ?_)
           clear hK K
           refine norm_ (a' := ?_) ?_ ?_
           rotate_left
           ·show Act.put _ (some 40) _ = _
            simp only [Act.put, List.setIfInBounds_toArray, List.set_cons_zero, List.set_cons_succ, i64_w, i32_w]
            rfl
           refine pure_ (i := 7) (N := some 33) (v := ?_) (a' := ?_) #[true, true, true, true, true, true, true, true, false, false, true, false, false] rfl rfl (any_of HT_.out (by kernel_rfl)) (fun _ _ _ h => h) (Or.inl ⟨by rfl, ?_⟩) ?_ ?_
           rotate_left
           ·intro w'
            go_simp
            with_reducible rfl
           rotate_left
           ·simp only [Act.put, List.setIfInBounds_toArray, List.set_cons_zero, List.set_cons_succ, i64_w, i32_w]
            rfl
           refine pure_ (i := 8) (N := some 41) (v := ?_) (a' := ?_) #[true, true, true, true, true, true, true, true, true, false, true, false, false] rfl rfl (any_of HT_.out (by kernel_rfl)) (fun _ _ _ h => h) (Or.inl ⟨by rfl, ?_⟩) ?_ ?_
           rotate_left
           ·intro w'
            go_simp
            with_reducible rfl
           rotate_left
           ·simp only [Act.put, List.setIfInBounds_toArray, List.set_cons_zero, List.set_cons_succ, i64_w, i32_w]
            rfl
           refine pure_ (i := 9) (N := some 42) (v := ?_) (a' := ?_) #[true, true, true, true, true, true, true, true, true, true, true, false, false] rfl rfl (any_of HT_.out (by kernel_rfl)) (fun _ _ _ h => h) (Or.inl ⟨by rfl, ?_⟩) ?_ ?_
           rotate_left
           ·intro w'
            go_simp
            with_reducible rfl
           rotate_left
           ·simp only [Act.put, List.setIfInBounds_toArray, List.set_cons_zero, List.set_cons_succ, i64_w, i32_w]
            rfl
           exact norm_ (by simp only [putAll, Act.put, List.setIfInBounds_toArray, List.set_cons_zero, List.set_cons_succ]) (hCont (gb305) _ ⟨hHeld, (by (with_reducible repeat (first | refine blk_drewN ?_ _ | refine blk_drew ?_ | refine blk_alloc ?_ _)); exact BK296.out), (by (with_reducible repeat (first | refine blk_drewN ?_ _ | refine blk_drew ?_ | refine blk_alloc ?_ _)); exact BK297.out), (by (with_reducible repeat (first | refine blk_drewN ?_ _ | refine blk_drew ?_ | refine blk_alloc ?_ _)); exact BK305.out), GW305.out, GE305.out, NB296_305.out, NB305_296.out, NB297_305.out, NB305_297.out, (by repeat (first | (with_reducible first | exact HB.out | apply below_alloc | apply pw_below_drewN | apply below_drew1 | refine below_set ?_ GE296.out | refine below_set ?_ GE297.out | refine below_set ?_ GE305.out) | exact HB.out))⟩)
         rintro gb305 w78 ⟨hS_, h0_, h1_, h2_, h3_, h4_, h5_, h6_, h7_, h8_, h9_⟩
         have n0_ : Aside0 (w78.heap[gb296]? = some (.cells #[.string a0_0, .int .i64 a0_1, .int .i64 a0_2, .int .i64 a0_3, .int .i64 a0_4, .int .i64 a0_5, .int .i64 a0_6, .int .i64 a0_7] 23 (0, 0))) := ⟨h0_⟩
         have n1_ : Aside0 (w78.heap[gb297]? = some (.cells #[.int .i64 x298000_2, .int .i64 x298001_2, .int .i64 x298002_2, .bool x298003_2] 25 (0, 0))) := ⟨h1_⟩
         have n2_ : Aside0 (w78.heap[gb305]? = some (.cells #[.int .i64 0, .int .i64 0, .int .i64 0, .bool false] 25 (0, 0))) := ⟨h2_⟩
         have n3_ : Aside0 (w.heap.size ≤ gb305) := ⟨h3_⟩
         have n4_ : Aside0 (w.heap.size ≤ gb305) := ⟨h4_⟩
         have n5_ : Aside0 (gb296 ≠ gb305) := ⟨h5_⟩
         have n6_ : Aside0 (gb305 ≠ gb296) := ⟨h6_⟩
         have n7_ : Aside0 (gb297 ≠ gb305) := ⟨h7_⟩
         have n8_ : Aside0 (gb305 ≠ gb297) := ⟨h8_⟩
         have n9_ : Aside0 (Below w.heap.size w w78) := ⟨h9_⟩
         clear BK296
         clear BK297
         clear HB
         clear h0_ h1_ h2_ h3_ h4_ h5_ h6_ h7_ h8_ h9_
         have BK296 := n0_
         have BK297 := n1_
         have BK305 := n2_
         have GW305 := n3_
         have GE305 := n4_
         have NB296_305 := n5_
         have NB305_296 := n6_
         have NB297_305 := n7_
         have NB305_297 := n8_
         have HB := n9_
         clear n0_ n1_ n2_ n3_ n4_ n5_ n6_ n7_ n8_ n9_
         have hHeld : w78.cell? ⟨gb296, 0, none⟩ = some (.string a0_0) ∧ w78.cell? ⟨gb296, 1, none⟩ = some (.int .i64 a0_1) ∧ w78.cell? ⟨gb296, 2, none⟩ = some (.int .i64 a0_2) ∧ w78.cell? ⟨gb296, 3, none⟩ = some (.int .i64 a0_3) ∧ w78.cell? ⟨gb296, 4, none⟩ = some (.int .i64 a0_4) ∧ w78.cell? ⟨gb296, 5, none⟩ = some (.int .i64 a0_5) ∧ w78.cell? ⟨gb296, 6, none⟩ = some (.int .i64 a0_6) ∧ w78.cell? ⟨gb296, 7, none⟩ = some (.int .i64 a0_7) ∧ w78.cell? ⟨gb297, 0, none⟩ = some (.int .i64 x298000_2) ∧ w78.cell? ⟨gb297, 1, none⟩ = some (.int .i64 x298001_2) ∧ w78.cell? ⟨gb297, 2, none⟩ = some (.int .i64 x298002_2) ∧ w78.cell? ⟨gb297, 3, none⟩ = some (.bool x298003_2) ∧ w78.cell? (ad299.add ((x10_2).toNat * 3)) = some (.int .i64 ((rd_T27 l2 x10_2).f0)) ∧ w78.cell? ⟨(ad299.add ((x10_2).toNat * 3)).block, (ad299.add ((x10_2).toNat * 3)).off + 1, none⟩ = some (.int .i64 ((rd_T27 l2 x10_2).f1)) ∧ w78.cell? ⟨(ad299.add ((x10_2).toNat * 3)).block, (ad299.add ((x10_2).toNat * 3)).off + 2, none⟩ = some (.int .i64 ((rd_T27 l2 x10_2).f2)) := hS_
         refine norm_ (a' := ?_) ?_ ?_
         rotate_left
         ·simp only [putAll, Act.put, List.setIfInBounds_toArray, List.set_cons_zero, List.set_cons_succ]
          rfl
         refine one_ (i := 11) (N := none) #[true, true, true, true, true, true, true, true, true, true, true, true, false] rfl rfl (one_of HT_.out (by kernel_rfl)) (by decide) (fun K hK => ?_)
         have hs79 : w78.cell? ⟨gb305, 0, none⟩ = some (.int .i64 0) := (blk_cell BK305.out 0).trans rfl
         have hfs79 := blk_frozen BK305.out 0
         have hns79_0 := NB296_305.out
         have hns79_1 := NB297_305.out
         have hms79_0 := NB305_296.out
         have hms79_1 := NB305_297.out
         have hs80 : w78.cell? ⟨gb305, 1, none⟩ = some (.int .i64 0) := (blk_cell BK305.out 1).trans rfl
         have hfs80 := blk_frozen BK305.out 1
         have hns80_0 := NB296_305.out
         have hns80_1 := NB297_305.out
         have hms80_0 := NB305_296.out
         have hms80_1 := NB305_297.out
         have hs81 : w78.cell? ⟨gb305, 2, none⟩ = some (.int .i64 0) := (blk_cell BK305.out 2).trans rfl
         have hfs81 := blk_frozen BK305.out 2
         have hns81_0 := NB296_305.out
         have hns81_1 := NB297_305.out
         have hms81_0 := NB305_296.out
         have hms81_1 := NB305_297.out
         have hs82 : w78.cell? ⟨gb305, 3, none⟩ = some (.bool false) := (blk_cell BK305.out 3).trans rfl
         have hfs82 := blk_frozen BK305.out 3
         have hns82_0 := NB296_305.out
         have hns82_1 := NB297_305.out
         have hms82_0 := NB305_296.out
         have hms82_1 := NB305_297.out
         refine skip_ (w1 := ?_) (by rfl) rfl ?_ ?_
         rotate_left
         ·go_simp
          rfl
         refine hK.out _ _ ⟨((cell_far (p := ⟨gb305, _, none⟩) NB296_305.out _).trans (((cell_far (p := ⟨gb305, _, none⟩) NB296_305.out _).trans (((cell_far (p := ⟨gb305, _, none⟩) NB296_305.out _).trans (((cell_far (p := ⟨gb305, _, none⟩) NB296_305.out _).trans (hHeld.1)))))))), ((cell_far (p := ⟨gb305, _, none⟩) NB296_305.out _).trans (((cell_far (p := ⟨gb305, _, none⟩) NB296_305.out _).trans (((cell_far (p := ⟨gb305, _, none⟩) NB296_305.out _).trans (((cell_far (p := ⟨gb305, _, none⟩) NB296_305.out _).trans (hHeld.2.1)))))))), ((cell_far (p := ⟨gb305, _, none⟩) NB296_305.out _).trans (((cell_far (p := ⟨gb305, _, none⟩) NB296_305.out _).trans (((cell_far (p := ⟨gb305, _, none⟩) NB296_305.out _).trans (((cell_far (p := ⟨gb305, _, none⟩) NB296_305.out _).trans (hHeld.2.2.1)))))))), ((cell_far (p := ⟨gb305, _, none⟩) NB296_305.out _).trans (((cell_far (p := ⟨gb305, _, none⟩) NB296_305.out _).trans (((cell_far (p := ⟨gb305, _, none⟩) NB296_305.out _).trans (((cell_far (p := ⟨gb305, _, none⟩) NB296_305.out _).trans (hHeld.2.2.2.1)))))))), ((cell_far (p := ⟨gb305, _, none⟩) NB296_305.out _).trans (((cell_far (p := ⟨gb305, _, none⟩) NB296_305.out _).trans (((cell_far (p := ⟨gb305, _, none⟩) NB296_305.out _).trans (((cell_far (p := ⟨gb305, _, none⟩) NB296_305.out _).trans (hHeld.2.2.2.2.1)))))))), ((cell_far (p := ⟨gb305, _, none⟩) NB296_305.out _).trans (((cell_far (p := ⟨gb305, _, none⟩) NB296_305.out _).trans (((cell_far (p := ⟨gb305, _, none⟩) NB296_305.out _).trans (((cell_far (p := ⟨gb305, _, none⟩) NB296_305.out _).trans (hHeld.2.2.2.2.2.1)))))))), ((cell_far (p := ⟨gb305, _, none⟩) NB296_305.out _).trans (((cell_far (p := ⟨gb305, _, none⟩) NB296_305.out _).trans (((cell_far (p := ⟨gb305, _, none⟩) NB296_305.out _).trans (((cell_far (p := ⟨gb305, _, none⟩) NB296_305.out _).trans (hHeld.2.2.2.2.2.2.1)))))))), ((cell_far (p := ⟨gb305, _, none⟩) NB296_305.out _).trans (((cell_far (p := ⟨gb305, _, none⟩) NB296_305.out _).trans (((cell_far (p := ⟨gb305, _, none⟩) NB296_305.out _).trans (((cell_far (p := ⟨gb305, _, none⟩) NB296_305.out _).trans (hHeld.2.2.2.2.2.2.2.1)))))))), ((cell_far (p := ⟨gb305, _, none⟩) NB297_305.out _).trans (((cell_far (p := ⟨gb305, _, none⟩) NB297_305.out _).trans (((cell_far (p := ⟨gb305, _, none⟩) NB297_305.out _).trans (((cell_far (p := ⟨gb305, _, none⟩) NB297_305.out _).trans (hHeld.2.2.2.2.2.2.2.2.1)))))))), ((cell_far (p := ⟨gb305, _, none⟩) NB297_305.out _).trans (((cell_far (p := ⟨gb305, _, none⟩) NB297_305.out _).trans (((cell_far (p := ⟨gb305, _, none⟩) NB297_305.out _).trans (((cell_far (p := ⟨gb305, _, none⟩) NB297_305.out _).trans (hHeld.2.2.2.2.2.2.2.2.2.1)))))))), ((cell_far (p := ⟨gb305, _, none⟩) NB297_305.out _).trans (((cell_far (p := ⟨gb305, _, none⟩) NB297_305.out _).trans (((cell_far (p := ⟨gb305, _, none⟩) NB297_305.out _).trans (((cell_far (p := ⟨gb305, _, none⟩) NB297_305.out _).trans (hHeld.2.2.2.2.2.2.2.2.2.2.1)))))))), ((cell_far (p := ⟨gb305, _, none⟩) NB297_305.out _).trans (((cell_far (p := ⟨gb305, _, none⟩) NB297_305.out _).trans (((cell_far (p := ⟨gb305, _, none⟩) NB297_305.out _).trans (((cell_far (p := ⟨gb305, _, none⟩) NB297_305.out _).trans (hHeld.2.2.2.2.2.2.2.2.2.2.2.1)))))))), ((cell_far (p := ⟨gb305, _, none⟩) (by first | exact Nat.ne_of_lt (Nat.lt_of_lt_of_le (by have := World.block_lt_of_cell? _ _ hw299_0; first | rwa [add_block] at this | exact this) GW305.out) | (rw [add_block]; exact Nat.ne_of_lt (Nat.lt_of_lt_of_le (by have := World.block_lt_of_cell? _ _ hw299_0; first | rwa [add_block] at this | exact this) GW305.out)) | (show (Addr.add _ _).block ≠ _; rw [add_block]; exact Nat.ne_of_lt (Nat.lt_of_lt_of_le (by have := World.block_lt_of_cell? _ _ hw299_0; first | rwa [add_block] at this | exact this) GW305.out)) | (dsimp only; exact Nat.ne_of_lt (Nat.lt_of_lt_of_le (by have := World.block_lt_of_cell? _ _ hw299_0; first | rwa [add_block] at this | exact this) GW305.out))) _).trans (((cell_far (p := ⟨gb305, _, none⟩) (by first | exact Nat.ne_of_lt (Nat.lt_of_lt_of_le (by have := World.block_lt_of_cell? _ _ hw299_0; first | rwa [add_block] at this | exact this) GW305.out) | (rw [add_block]; exact Nat.ne_of_lt (Nat.lt_of_lt_of_le (by have := World.block_lt_of_cell? _ _ hw299_0; first | rwa [add_block] at this | exact this) GW305.out)) | (show (Addr.add _ _).block ≠ _; rw [add_block]; exact Nat.ne_of_lt (Nat.lt_of_lt_of_le (by have := World.block_lt_of_cell? _ _ hw299_0; first | rwa [add_block] at this | exact this) GW305.out)) | (dsimp only; exact Nat.ne_of_lt (Nat.lt_of_lt_of_le (by have := World.block_lt_of_cell? _ _ hw299_0; first | rwa [add_block] at this | exact this) GW305.out))) _).trans (((cell_far (p := ⟨gb305, _, none⟩) (by first | exact Nat.ne_of_lt (Nat.lt_of_lt_of_le (by have := World.block_lt_of_cell? _ _ hw299_0; first | rwa [add_block] at this | exact this) GW305.out) | (rw [add_block]; exact Nat.ne_of_lt (Nat.lt_of_lt_of_le (by have := World.block_lt_of_cell? _ _ hw299_0; first | rwa [add_block] at this | exact this) GW305.out)) | (show (Addr.add _ _).block ≠ _; rw [add_block]; exact Nat.ne_of_lt (Nat.lt_of_lt_of_le (by have := World.block_lt_of_cell? _ _ hw299_0; first | rwa [add_block] at this | exact this) GW305.out)) | (dsimp only; exact Nat.ne_of_lt (Nat.lt_of_lt_of_le (by have := World.block_lt_of_cell? _ _ hw299_0; first | rwa [add_block] at this | exact this) GW305.out))) _).trans (((cell_far (p := ⟨gb305, _, none⟩) (by first | exact Nat.ne_of_lt (Nat.lt_of_lt_of_le (by have := World.block_lt_of_cell? _ _ hw299_0; first | rwa [add_block] at this | exact this) GW305.out) | (rw [add_block]; exact Nat.ne_of_lt (Nat.lt_of_lt_of_le (by have := World.block_lt_of_cell? _ _ hw299_0; first | rwa [add_block] at this | exact this) GW305.out)) | (show (Addr.add _ _).block ≠ _; rw [add_block]; exact Nat.ne_of_lt (Nat.lt_of_lt_of_le (by have := World.block_lt_of_cell? _ _ hw299_0; first | rwa [add_block] at this | exact this) GW305.out)) | (dsimp only; exact Nat.ne_of_lt (Nat.lt_of_lt_of_le (by have := World.block_lt_of_cell? _ _ hw299_0; first | rwa [add_block] at this | exact this) GW305.out))) _).trans (hHeld.2.2.2.2.2.2.2.2.2.2.2.2.1)))))))), ((cell_far (p := ⟨gb305, _, none⟩) (by first | exact Nat.ne_of_lt (Nat.lt_of_lt_of_le (by have := World.block_lt_of_cell? _ _ hw299_1; first | rwa [add_block] at this | exact this) GW305.out) | (rw [add_block]; exact Nat.ne_of_lt (Nat.lt_of_lt_of_le (by have := World.block_lt_of_cell? _ _ hw299_1; first | rwa [add_block] at this | exact this) GW305.out)) | (show (Addr.add _ _).block ≠ _; rw [add_block]; exact Nat.ne_of_lt (Nat.lt_of_lt_of_le (by have := World.block_lt_of_cell? _ _ hw299_1; first | rwa [add_block] at this | exact this) GW305.out)) | (dsimp only; exact Nat.ne_of_lt (Nat.lt_of_lt_of_le (by have := World.block_lt_of_cell? _ _ hw299_1; first | rwa [add_block] at this | exact this) GW305.out))) _).trans (((cell_far (p := ⟨gb305, _, none⟩) (by first | exact Nat.ne_of_lt (Nat.lt_of_lt_of_le (by have := World.block_lt_of_cell? _ _ hw299_1; first | rwa [add_block] at this | exact this) GW305.out) | (rw [add_block]; exact Nat.ne_of_lt (Nat.lt_of_lt_of_le (by have := World.block_lt_of_cell? _ _ hw299_1; first | rwa [add_block] at this | exact this) GW305.out)) | (show (Addr.add _ _).block ≠ _; rw [add_block]; exact Nat.ne_of_lt (Nat.lt_of_lt_of_le (by have := World.block_lt_of_cell? _ _ hw299_1; first | rwa [add_block] at this | exact this) GW305.out)) | (dsimp only; exact Nat.ne_of_lt (Nat.lt_of_lt_of_le (by have := World.block_lt_of_cell? _ _ hw299_1; first | rwa [add_block] at this | exact this) GW305.out))) _).trans (((cell_far (p := ⟨gb305, _, none⟩) (by first | exact Nat.ne_of_lt (Nat.lt_of_lt_of_le (by have := World.block_lt_of_cell? _ _ hw299_1; first | rwa [add_block] at this | exact this) GW305.out) | (rw [add_block]; exact Nat.ne_of_lt (Nat.lt_of_lt_of_le (by have := World.block_lt_of_cell? _ _ hw299_1; first | rwa [add_block] at this | exact this) GW305.out)) | (show (Addr.add _ _).block ≠ _; rw [add_block]; exact Nat.ne_of_lt (Nat.lt_of_lt_of_le (by have := World.block_lt_of_cell? _ _ hw299_1; first | rwa [add_block] at this | exact this) GW305.out)) | (dsimp only; exact Nat.ne_of_lt (Nat.lt_of_lt_of_le (by have := World.block_lt_of_cell? _ _ hw299_1; first | rwa [add_block] at this | exact this) GW305.out))) _).trans (((cell_far (p := ⟨gb305, _, none⟩) (by first | exact Nat.ne_of_lt (Nat.lt_of_lt_of_le (by have := World.block_lt_of_cell? _ _ hw299_1; first | rwa [add_block] at this | exact this) GW305.out) | (rw [add_block]; exact Nat.ne_of_lt (Nat.lt_of_lt_of_le (by have := World.block_lt_of_cell? _ _ hw299_1; first | rwa [add_block] at this | exact this) GW305.out)) | (show (Addr.add _ _).block ≠ _; rw [add_block]; exact Nat.ne_of_lt (Nat.lt_of_lt_of_le (by have := World.block_lt_of_cell? _ _ hw299_1; first | rwa [add_block] at this | exact this) GW305.out)) | (dsimp only; exact Nat.ne_of_lt (Nat.lt_of_lt_of_le (by have := World.block_lt_of_cell? _ _ hw299_1; first | rwa [add_block] at this | exact this) GW305.out))) _).trans (hHeld.2.2.2.2.2.2.2.2.2.2.2.2.2.1)))))))), ((cell_far (p := ⟨gb305, _, none⟩) (by first | exact Nat.ne_of_lt (Nat.lt_of_lt_of_le (by have := World.block_lt_of_cell? _ _ hw299_2; first | rwa [add_block] at this | exact this) GW305.out) | (rw [add_block]; exact Nat.ne_of_lt (Nat.lt_of_lt_of_le (by have := World.block_lt_of_cell? _ _ hw299_2; first | rwa [add_block] at this | exact this) GW305.out)) | (show (Addr.add _ _).block ≠ _; rw [add_block]; exact Nat.ne_of_lt (Nat.lt_of_lt_of_le (by have := World.block_lt_of_cell? _ _ hw299_2; first | rwa [add_block] at this | exact this) GW305.out)) | (dsimp only; exact Nat.ne_of_lt (Nat.lt_of_lt_of_le (by have := World.block_lt_of_cell? _ _ hw299_2; first | rwa [add_block] at this | exact this) GW305.out))) _).trans (((cell_far (p := ⟨gb305, _, none⟩) (by first | exact Nat.ne_of_lt (Nat.lt_of_lt_of_le (by have := World.block_lt_of_cell? _ _ hw299_2; first | rwa [add_block] at this | exact this) GW305.out) | (rw [add_block]; exact Nat.ne_of_lt (Nat.lt_of_lt_of_le (by have := World.block_lt_of_cell? _ _ hw299_2; first | rwa [add_block] at this | exact this) GW305.out)) | (show (Addr.add _ _).block ≠ _; rw [add_block]; exact Nat.ne_of_lt (Nat.lt_of_lt_of_le (by have := World.block_lt_of_cell? _ _ hw299_2; first | rwa [add_block] at this | exact this) GW305.out)) | (dsimp only; exact Nat.ne_of_lt (Nat.lt_of_lt_of_le (by have := World.block_lt_of_cell? _ _ hw299_2; first | rwa [add_block] at this | exact this) GW305.out))) _).trans (((cell_far (p := ⟨gb305, _, none⟩) (by first | exact Nat.ne_of_lt (Nat.lt_of_lt_of_le (by have := World.block_lt_of_cell? _ _ hw299_2; first | rwa [add_block] at this | exact this) GW305.out) | (rw [add_block]; exact Nat.ne_of_lt (Nat.lt_of_lt_of_le (by have := World.block_lt_of_cell? _ _ hw299_2; first | rwa [add_block] at this | exact this) GW305.out)) | (show (Addr.add _ _).block ≠ _; rw [add_block]; exact Nat.ne_of_lt (Nat.lt_of_lt_of_le (by have := World.block_lt_of_cell? _ _ hw299_2; first | rwa [add_block] at this | exact this) GW305.out)) | (dsimp only; exact Nat.ne_of_lt (Nat.lt_of_lt_of_le (by have := World.block_lt_of_cell? _ _ hw299_2; first | rwa [add_block] at this | exact this) GW305.out))) _).trans (((cell_far (p := ⟨gb305, _, none⟩) (by first | exact Nat.ne_of_lt (Nat.lt_of_lt_of_le (by have := World.block_lt_of_cell? _ _ hw299_2; first | rwa [add_block] at this | exact this) GW305.out) | (rw [add_block]; exact Nat.ne_of_lt (Nat.lt_of_lt_of_le (by have := World.block_lt_of_cell? _ _ hw299_2; first | rwa [add_block] at this | exact this) GW305.out)) | (show (Addr.add _ _).block ≠ _; rw [add_block]; exact Nat.ne_of_lt (Nat.lt_of_lt_of_le (by have := World.block_lt_of_cell? _ _ hw299_2; first | rwa [add_block] at this | exact this) GW305.out)) | (dsimp only; exact Nat.ne_of_lt (Nat.lt_of_lt_of_le (by have := World.block_lt_of_cell? _ _ hw299_2; first | rwa [add_block] at this | exact this) GW305.out))) _).trans (hHeld.2.2.2.2.2.2.2.2.2.2.2.2.2.2))))))))⟩ (fun hHeld => ?_)
         clear hK K
         refine pure_ (i := 12) (N := some 12) (v := ?_) (a' := ?_) #[true, true, true, true, true, true, true, true, true, true, true, true, true] rfl rfl (any_of HT_.out (by kernel_rfl)) (fun _ _ _ h => h) (Or.inl ⟨by rfl, ?_⟩) ?_ ?_
         rotate_left
         ·intro w'
          go_simp
          with_reducible rfl
         rotate_left
         ·simp only [Act.put, List.setIfInBounds_toArray, List.set_cons_zero, List.set_cons_succ, i64_w, i32_w]
          rfl
         refine done_ (done_of HT_.out (by kernel_rfl)) ?_
         try go_wp2
         go_roundg k2
         case measure => have := HJ5.out; have := HK2.out; omega
         case rel => exact ⟨(x7_2), (x9_2), (wrap64 (x10_2 + 1)), (x298000_2), (x298001_2), (x298002_2), (x298003_2), (by first | rfl | (simp; done) | (simp [*]; done)), (by first | rfl | (simp; done) | (simp [*]; done)), (by first | rfl | (simp; done) | (simp [*]; done)), H', ⟨by have := HJ5.out; have := HK2.out; omega⟩, ⟨by (with_reducible repeat (first | refine blk_drewN ?_ _ | refine blk_drew ?_ | refine blk_alloc ?_ _)); refine blk_far ?_ NB296_305.out _; (with_reducible repeat (first | refine blk_drewN ?_ _ | refine blk_drew ?_ | refine blk_alloc ?_ _)); refine blk_far ?_ NB296_305.out _; (with_reducible repeat (first | refine blk_drewN ?_ _ | refine blk_drew ?_ | refine blk_alloc ?_ _)); refine blk_far ?_ NB296_305.out _; (with_reducible repeat (first | refine blk_drewN ?_ _ | refine blk_drew ?_ | refine blk_alloc ?_ _)); refine blk_far ?_ NB296_305.out _; (with_reducible repeat (first | refine blk_drewN ?_ _ | refine blk_drew ?_ | refine blk_alloc ?_ _)); exact BK296.out⟩, ⟨by (with_reducible repeat (first | refine blk_drewN ?_ _ | refine blk_drew ?_ | refine blk_alloc ?_ _)); refine blk_far ?_ NB297_305.out _; (with_reducible repeat (first | refine blk_drewN ?_ _ | refine blk_drew ?_ | refine blk_alloc ?_ _)); refine blk_far ?_ NB297_305.out _; (with_reducible repeat (first | refine blk_drewN ?_ _ | refine blk_drew ?_ | refine blk_alloc ?_ _)); refine blk_far ?_ NB297_305.out _; (with_reducible repeat (first | refine blk_drewN ?_ _ | refine blk_drew ?_ | refine blk_alloc ?_ _)); refine blk_far ?_ NB297_305.out _; (with_reducible repeat (first | refine blk_drewN ?_ _ | refine blk_drew ?_ | refine blk_alloc ?_ _)); exact BK297.out⟩, ⟨by repeat (first | (with_reducible first | exact HB.out | apply below_alloc | apply pw_below_drewN | apply below_drew1 | refine below_set ?_ GE296.out | refine below_set ?_ GE297.out | refine below_set ?_ GE305.out) | exact HB.out)⟩⟩
       ·rw [if_neg c19] at H
        exact absurd H (by simp)
      ·rw [if_neg c18] at H
       have c18b0 : decide (x10_2 < (l2.length : Int)) = false := decide_eq_false c18
       clear c18
       obtain rfl := Option.some.inj H
       simp only [Option.some.injEq, Prod.mk.injEq] at H
       obtain ⟨rfl⟩ := H
       go_wp2
       go_ret
       exact ⟨by first | rfl | (simp [errW_none, errW_some] <;> rfl) | (simp [*, errW_none, errW_some] <;> rfl), by repeat (first | (with_reducible first | exact HB.out | apply below_alloc | apply pw_below_drewN | apply below_drew1 | refine below_set ?_ GE296.out | refine below_set ?_ GE297.out) | exact HB.out)⟩

end Go.Proofs.YtnfanhnflcjphaaDoor.PAll
