/- What the Go functions of this seat's laws return, told as Lean functions and proved by their walks; laid by a program of this session out of Lean's own print of the translation. No conditions of its own. -/
import Derived.Test.YtnfanhnflcjphaaDoorPAllx0
import Derived.Test.YtnfanhnflcjphaaDoorPAllx3
import Derived.Test.YtnfanhnflcjphaaDoorPAllx4
import Derived.Test.YtnfanhnflcjphaaDoorPAllx6
import Derived.Test.YtnfanhnflcjphaaDoorPAllx7
namespace Go.Proofs.YtnfanhnflcjphaaDoor.PAll
open Go.RowKit Go.Proofs.YtnfanhnflcjphaaDoorW.PrintWords Go.Proofs.YtnfanhnflcjphaaDoorW.PrintLast Go.Proofs.YtnfanhnflcjphaaDoorW.PrintMore
attribute [local go_sem] max2_int min2_int max_two min_two max_three min_three max_four min_four   -- for this text's walks alone
set_option linter.unusedVariables false
set_option linter.unusedSimpArgs false

/-! ### chargeparklaw12_ChargerLeases: function 5 -/
mutual
def chargeparklaw12_ChargerLeases.j0 : Nat → List (S27) → Bool → Bool → ByteArray → Int → Int → Int → Int → Int → Int → Int → Option (Bool)
  | 0, _, _, _, _, _, _, _, _, _, _, _ => none
  | k + 1, x1, x5, x23, x266000, x266001, x266002, x266003, x266004, x266005, x266006, x266007 => if x23 = true then (some x5) else ((charger_Start.f).bind fun _ => (chargeparklaw12_ChargerLeases.l0 k x1 x5 0 0 0 x266000 x266001 x266002 x266003 x266004 x266005 x266006 x266007 0 0 0 false))
def chargeparklaw12_ChargerLeases.l0 : Nat → List (S27) → Bool → Int → Int → Int → ByteArray → Int → Int → Int → Int → Int → Int → Int → Int → Int → Int → Bool → Option (Bool)
  | 0, _, _, _, _, _, _, _, _, _, _, _, _, _, _, _, _, _ => none
  | k + 1, x1, x5, x8, x9, x10, x266000, x266001, x266002, x266003, x266004, x266005, x266006, x266007, x272000, x272001, x272002, x272003 => if x10 < (x1.length : Int) then (if 0 ≤ x10 then ((charger_Step.f x266000 x266001 x266002 x266003 x266004 x266005 x266006 x266007 x272000 x272001 x272002 x272003 ((rd_T27 x1 x10).f0) ((rd_T27 x1 x10).f1) ((rd_T27 x1 x10).f2)).bind fun bt273 => (if bt273.2.2.2.2 = 0 then (if ((rd_T27 x1 x10).f0) = 7 then (chargeparklaw12_ChargerLeases.j2 k x1 x5 ((rd_T27 x1 x10).f1) ((rd_T27 x1 x10).f2) x10 x266000 x266001 x266002 x266003 x266004 x266005 x266006 x266007 bt273.1 bt273.2.1 bt273.2.2.1 bt273.2.2.2.1) else (if ((rd_T27 x1 x10).f0) = 8 then (chargeparklaw12_ChargerLeases.j2 k x1 x5 x8 (wrap64 (x9 - 1)) x10 x266000 x266001 x266002 x266003 x266004 x266005 x266006 x266007 bt273.1 bt273.2.1 bt273.2.2.1 bt273.2.2.2.1) else (if ((rd_T27 x1 x10).f0) = 9 then (chargeparklaw12_ChargerLeases.j2 k x1 x5 x8 0 x10 x266000 x266001 x266002 x266003 x266004 x266005 x266006 x266007 bt273.1 bt273.2.1 bt273.2.2.1 bt273.2.2.2.1) else (chargeparklaw12_ChargerLeases.j2 k x1 x5 x8 x9 x10 x266000 x266001 x266002 x266003 x266004 x266005 x266006 x266007 bt273.1 bt273.2.1 bt273.2.2.1 bt273.2.2.2.1)))) else (chargeparklaw12_ChargerLeases.l0 k x1 x5 x8 x9 (wrap64 (x10 + 1)) x266000 x266001 x266002 x266003 x266004 x266005 x266006 x266007 x272000 x272001 x272002 x272003))) else (none)) else (some x5)
def chargeparklaw12_ChargerLeases.j2 : Nat → List (S27) → Bool → Int → Int → Int → ByteArray → Int → Int → Int → Int → Int → Int → Int → Int → Int → Int → Bool → Option (Bool)
  | 0, _, _, _, _, _, _, _, _, _, _, _, _, _, _, _, _, _ => none
  | k + 1, x1, x5, x8, x9, x10, x266000, x266001, x266002, x266003, x266004, x266005, x266006, x266007, x272000, x272001, x272002, x272003 => if x9 > 0 then (if x272000 = 4 then (if x5 = true then ((charger_Allowed.f x266000 x266001 x266002 x266003 x266004 x266005 x266006 x266007 x272000 x272001 x272002 x272003).bind fun t282 => (chargeparklaw12_ChargerLeases.l0 k x1 (t282 == x8) x8 x9 (wrap64 (x10 + 1)) x266000 x266001 x266002 x266003 x266004 x266005 x266006 x266007 x272000 x272001 x272002 x272003)) else (chargeparklaw12_ChargerLeases.l0 k x1 false x8 x9 (wrap64 (x10 + 1)) x266000 x266001 x266002 x266003 x266004 x266005 x266006 x266007 x272000 x272001 x272002 x272003)) else (chargeparklaw12_ChargerLeases.l0 k x1 x5 x8 x9 (wrap64 (x10 + 1)) x266000 x266001 x266002 x266003 x266004 x266005 x266006 x266007 x272000 x272001 x272002 x272003)) else (if x272000 = 4 then (if x5 = true then ((charger_Allowed.f x266000 x266001 x266002 x266003 x266004 x266005 x266006 x266007 x272000 x272001 x272002 x272003).bind fun t283 => (chargeparklaw12_ChargerLeases.l0 k x1 (t283 == x266006) x8 x9 (wrap64 (x10 + 1)) x266000 x266001 x266002 x266003 x266004 x266005 x266006 x266007 x272000 x272001 x272002 x272003)) else (chargeparklaw12_ChargerLeases.l0 k x1 false x8 x9 (wrap64 (x10 + 1)) x266000 x266001 x266002 x266003 x266004 x266005 x266006 x266007 x272000 x272001 x272002 x272003)) else (chargeparklaw12_ChargerLeases.l0 k x1 x5 x8 x9 (wrap64 (x10 + 1)) x266000 x266001 x266002 x266003 x266004 x266005 x266006 x266007 x272000 x272001 x272002 x272003))
end
def chargeparklaw12_ChargerLeases.f (k : Nat) (a0_0 : ByteArray) (a0_1 : Int) (a0_2 : Int) (a0_3 : Int) (a0_4 : Int) (a0_5 : Int) (a0_6 : Int) (a0_7 : Int) (l1 : List (S27)) : Option (Bool) := (chargeparklaw12_head_c.f).bind fun _ => ((chargeparkref12_Charger.f a0_0 a0_1 a0_2 a0_3 a0_4 a0_5 a0_6 a0_7).bind fun t266 => (if t266 = true then (chargeparklaw12_ChargerLeases.j0 k l1 true (decide ((l1.length : Int) > 100)) a0_0 a0_1 a0_2 a0_3 a0_4 a0_5 a0_6 a0_7) else (chargeparklaw12_ChargerLeases.j0 k l1 true true a0_0 a0_1 a0_2 a0_3 a0_4 a0_5 a0_6 a0_7)))
theorem chargeparklaw12_ChargerLeases.mono_l : ∀ k, (∀ y0 y1 y2 y3 y4 y5 y6 y7 y8 y9 y10, LeO (chargeparklaw12_ChargerLeases.j0 k y0 y1 y2 y3 y4 y5 y6 y7 y8 y9 y10) (chargeparklaw12_ChargerLeases.j0 (k + 1) y0 y1 y2 y3 y4 y5 y6 y7 y8 y9 y10)) ∧ (∀ y0 y1 y2 y3 y4 y5 y6 y7 y8 y9 y10 y11 y12 y13 y14 y15 y16, LeO (chargeparklaw12_ChargerLeases.l0 k y0 y1 y2 y3 y4 y5 y6 y7 y8 y9 y10 y11 y12 y13 y14 y15 y16) (chargeparklaw12_ChargerLeases.l0 (k + 1) y0 y1 y2 y3 y4 y5 y6 y7 y8 y9 y10 y11 y12 y13 y14 y15 y16)) ∧ (∀ y0 y1 y2 y3 y4 y5 y6 y7 y8 y9 y10 y11 y12 y13 y14 y15 y16, LeO (chargeparklaw12_ChargerLeases.j2 k y0 y1 y2 y3 y4 y5 y6 y7 y8 y9 y10 y11 y12 y13 y14 y15 y16) (chargeparklaw12_ChargerLeases.j2 (k + 1) y0 y1 y2 y3 y4 y5 y6 y7 y8 y9 y10 y11 y12 y13 y14 y15 y16))
  | 0 => ⟨fun _ _ _ _ _ _ _ _ _ _ _ r h => by simp [chargeparklaw12_ChargerLeases.j0] at h, fun _ _ _ _ _ _ _ _ _ _ _ _ _ _ _ _ _ r h => by simp [chargeparklaw12_ChargerLeases.l0] at h, fun _ _ _ _ _ _ _ _ _ _ _ _ _ _ _ _ _ r h => by simp [chargeparklaw12_ChargerLeases.j2] at h⟩
  | k + 1 => by
    obtain ⟨ih0, ih1, ih2⟩ := chargeparklaw12_ChargerLeases.mono_l k
    refine ⟨?_, ?_, ?_⟩
    · intro y0 y1 y2 y3 y4 y5 y6 y7 y8 y9 y10
      unfold chargeparklaw12_ChargerLeases.j0
      repeat' first
      | (with_reducible exact ih0 _ _ _ _ _ _ _ _ _ _ _)
      | (with_reducible exact ih1 _ _ _ _ _ _ _ _ _ _ _ _ _ _ _ _ _)
      | (with_reducible exact ih2 _ _ _ _ _ _ _ _ _ _ _ _ _ _ _ _ _)
      | (with_reducible exact LeO.refl _)
      | (with_reducible exact LeO.none _)
      | (with_reducible refine LeO.ite ?_ ?_)
      | (with_reducible refine LeO.bind ?_ (fun _ => ?_))
      | exact ih0 _ _ _ _ _ _ _ _ _ _ _
      | exact ih1 _ _ _ _ _ _ _ _ _ _ _ _ _ _ _ _ _
      | exact ih2 _ _ _ _ _ _ _ _ _ _ _ _ _ _ _ _ _
      | exact LeO.none _
      | refine LeO.ite ?_ ?_
      | refine LeO.bind ?_ (fun _ => ?_)
    · intro y0 y1 y2 y3 y4 y5 y6 y7 y8 y9 y10 y11 y12 y13 y14 y15 y16
      unfold chargeparklaw12_ChargerLeases.l0
      repeat' first
      | (with_reducible exact ih0 _ _ _ _ _ _ _ _ _ _ _)
      | (with_reducible exact ih1 _ _ _ _ _ _ _ _ _ _ _ _ _ _ _ _ _)
      | (with_reducible exact ih2 _ _ _ _ _ _ _ _ _ _ _ _ _ _ _ _ _)
      | (with_reducible exact LeO.refl _)
      | (with_reducible exact LeO.none _)
      | (with_reducible refine LeO.ite ?_ ?_)
      | (with_reducible refine LeO.bind ?_ (fun _ => ?_))
      | exact ih0 _ _ _ _ _ _ _ _ _ _ _
      | exact ih1 _ _ _ _ _ _ _ _ _ _ _ _ _ _ _ _ _
      | exact ih2 _ _ _ _ _ _ _ _ _ _ _ _ _ _ _ _ _
      | exact LeO.none _
      | refine LeO.ite ?_ ?_
      | refine LeO.bind ?_ (fun _ => ?_)
    · intro y0 y1 y2 y3 y4 y5 y6 y7 y8 y9 y10 y11 y12 y13 y14 y15 y16
      unfold chargeparklaw12_ChargerLeases.j2
      repeat' first
      | (with_reducible exact ih0 _ _ _ _ _ _ _ _ _ _ _)
      | (with_reducible exact ih1 _ _ _ _ _ _ _ _ _ _ _ _ _ _ _ _ _)
      | (with_reducible exact ih2 _ _ _ _ _ _ _ _ _ _ _ _ _ _ _ _ _)
      | (with_reducible exact LeO.refl _)
      | (with_reducible exact LeO.none _)
      | (with_reducible refine LeO.ite ?_ ?_)
      | (with_reducible refine LeO.bind ?_ (fun _ => ?_))
      | exact ih0 _ _ _ _ _ _ _ _ _ _ _
      | exact ih1 _ _ _ _ _ _ _ _ _ _ _ _ _ _ _ _ _
      | exact ih2 _ _ _ _ _ _ _ _ _ _ _ _ _ _ _ _ _
      | exact LeO.none _
      | refine LeO.ite ?_ ?_
      | refine LeO.bind ?_ (fun _ => ?_)
theorem chargeparklaw12_ChargerLeases.mono : ∀ a0 a1 a2 a3 a4 a5 a6 a7 a8 k, LeO (chargeparklaw12_ChargerLeases.f k a0 a1 a2 a3 a4 a5 a6 a7 a8) (chargeparklaw12_ChargerLeases.f (k + 1) a0 a1 a2 a3 a4 a5 a6 a7 a8) := by
  intro a0 a1 a2 a3 a4 a5 a6 a7 a8 k
  obtain ⟨ih0, ih1, ih2⟩ := chargeparklaw12_ChargerLeases.mono_l k
  unfold chargeparklaw12_ChargerLeases.f
  repeat' first
      | (with_reducible exact ih0 _ _ _ _ _ _ _ _ _ _ _)
      | (with_reducible exact ih1 _ _ _ _ _ _ _ _ _ _ _ _ _ _ _ _ _)
      | (with_reducible exact ih2 _ _ _ _ _ _ _ _ _ _ _ _ _ _ _ _ _)
      | (with_reducible exact LeO.refl _)
      | (with_reducible exact LeO.none _)
      | (with_reducible refine LeO.ite ?_ ?_)
      | (with_reducible refine LeO.bind ?_ (fun _ => ?_))
      | exact ih0 _ _ _ _ _ _ _ _ _ _ _
      | exact ih1 _ _ _ _ _ _ _ _ _ _ _ _ _ _ _ _ _
      | exact ih2 _ _ _ _ _ _ _ _ _ _ _ _ _ _ _ _ _
      | exact LeO.none _
      | refine LeO.ite ?_ ?_
      | refine LeO.bind ?_ (fun _ => ?_)
def chargeparklaw12_ChargerLeases.T11 : Bool × List (List Nat × List Nat) := (true, [([], []), ([], []), ([], []), ([], []), ([2, 3], [2, 3]), ([4], [4]), ([0, 1, 5], [0, 1, 5]), ([6], [6]), ([7], [7]), ([7], [7]), ([], []), ([10, 8, 6, 0, 1, 2, 3, 4, 5, 6, 7, 8, 10], [8, 10]), ([9, 11, 0, 1, 2, 3, 4, 5, 6, 7, 8, 9, 10, 11], [9])])
def chargeparklaw12_ChargerLeases.B11 : List Nat := [0, 0, 0, 0, 12, 28, 63, 127, 255, 255, 0, 1535, 4095]
theorem chargeparklaw12_ChargerLeases.tab11 : rtab .any (opsOf Tryd.f5 11) = chargeparklaw12_ChargerLeases.T11 := by kernel_rfl
theorem chargeparklaw12_ChargerLeases.bits11 : waitsOk chargeparklaw12_ChargerLeases.T11.2 chargeparklaw12_ChargerLeases.B11 = true := by kernel_rfl
set_option maxHeartbeats 8000000 in
set_option maxRecDepth 100000 in
theorem chargeparklaw12_ChargerLeases.calls (k : Nat) (a0_0 : ByteArray) (a0_1 : Int) (a0_2 : Int) (a0_3 : Int) (a0_4 : Int) (a0_5 : Int) (a0_6 : Int) (a0_7 : Int) (A1 : Option Addr) (c1 : Nat) (l1 : List (S27)) (r : Bool) (w : World) (hG : Hand.G w) (hr1 : Kd.C k27 w A1 l1.length l1) (hc1 : l1.length ≤ c1) (h : chargeparklaw12_ChargerLeases.f k a0_0 a0_1 a0_2 a0_3 a0_4 a0_5 a0_6 a0_7 l1 = some r) (hr : Aside0 (r = true)) :
    Calls Tryd.prog 5 #[.agg #[.string a0_0, .int .i64 a0_1, .int .i64 a0_2, .int .i64 a0_3, .int .i64 a0_4, .int .i64 a0_5, .int .i64 a0_6, .int .i64 a0_7], .slice A1 l1.length c1] w fun e w' => e = .returned (.bool r) ∧ Below w.heap.size w w' := by
  have hu23 := Tryd.underlying23
  have hu25 := Tryd.underlying25
  have hu27 := Tryd.underlying27
  have HR1 := Aside0.mk hr1
  have HC1 := Aside0.mk hc1
  clear hr1 hc1
  have HB := Aside0.mk (Below.refl w.heap.size w)
  have H : ((chargeparklaw12_head_c.f).bind fun _ => ((chargeparkref12_Charger.f a0_0 a0_1 a0_2 a0_3 a0_4 a0_5 a0_6 a0_7).bind fun t266 => (if t266 = true then (chargeparklaw12_ChargerLeases.j0 k l1 true (decide ((l1.length : Int) > 100)) a0_0 a0_1 a0_2 a0_3 a0_4 a0_5 a0_6 a0_7) else (chargeparklaw12_ChargerLeases.j0 k l1 true true a0_0 a0_1 a0_2 a0_3 a0_4 a0_5 a0_6 a0_7)))) = some r := h
  clear h
  replace H := Option.bind_eq_some_iff.mp H
  obtain ⟨tc_, A30, H⟩ := H
  obtain rfl : true = tc_ := Option.some.inj ((show chargeparklaw12_head_c.f = some true by kernel_rfl).symm.trans A30)
  replace H : ((chargeparkref12_Charger.f a0_0 a0_1 a0_2 a0_3 a0_4 a0_5 a0_6 a0_7).bind fun t266 => (if t266 = true then (chargeparklaw12_ChargerLeases.j0 k l1 true (decide ((l1.length : Int) > 100)) a0_0 a0_1 a0_2 a0_3 a0_4 a0_5 a0_6 a0_7) else (chargeparklaw12_ChargerLeases.j0 k l1 true true a0_0 a0_1 a0_2 a0_3 a0_4 a0_5 a0_6 a0_7))) = some r := H
  have A3 := Aside0.mk A30
  clear A30
  replace H := Option.bind_eq_some_iff.mp H
  obtain ⟨t266, A40, H⟩ := H
  replace H : (if t266 = true then (chargeparklaw12_ChargerLeases.j0 k l1 true (decide ((l1.length : Int) > 100)) a0_0 a0_1 a0_2 a0_3 a0_4 a0_5 a0_6 a0_7) else (chargeparklaw12_ChargerLeases.j0 k l1 true true a0_0 a0_1 a0_2 a0_3 a0_4 a0_5 a0_6 a0_7)) = some r := H
  have A4 := Aside0.mk A40
  clear A40
  have HC5 := Aside0.mk H
  clear H
  go_enter Tryd.func5, Tryd.ntmps5
  go_upto_region 3 with (first | ((with_reducible refine gate_dst (N := 2) rfl ?_); (try (refine gate_guard (by rfl) ?_; dsimp only)); refine box_event ?hg (N := 2) ?hd (cs := #[.string a0_0, .int .i64 a0_1, .int .i64 a0_2, .int .i64 a0_3, .int .i64 a0_4, .int .i64 a0_5, .int .i64 a0_6, .int .i64 a0_7]) (t := 23) ?hr ?_; (case hd => rfl); (case hg => rfl); (case hr => first | (go_simp; done) | (go_simp; rfl)); intro gb265 hg w6 hbox hb; have n0_ := Aside0.mk (below_step (by repeat (first | (with_reducible first | exact HB.out | apply below_alloc | apply pw_below_drewN | apply below_drew1) | exact HB.out)) hb); have n1_ := Aside0.mk (hbox); have n2_ := Aside0.mk ((by rw [hg]; exact (below_size (by repeat (first | (with_reducible first | exact HB.out | apply below_alloc | apply pw_below_drewN | apply below_drew1) | exact HB.out))) : w.heap.size ≤ gb265)); have n3_ := Aside0.mk ((by rw [hg]; exact (below_size (by repeat (first | (with_reducible first | exact HB.out | apply below_alloc | apply pw_below_drewN | apply below_drew1) | exact HB.out))) : w.heap.size ≤ gb265)); clear HB; have HB := n0_; have BK265 := n1_; have GW265 := n2_; have GE265 := n3_; clear n0_ n1_ n2_ n3_; clear hb hbox hg) | ((with_reducible refine gate_callee (f := 10) rfl ?_); refine goesL_ (some 14) rfl rfl Tryd.func10 (by kernel_rfl) rfl #[] rfl (by (try simp only [List.map_toArray, List.map_cons, List.map_nil]); first | done | rfl | (simp only [List.length_drop, List.length_take]; rfl)) ?_; (with_reducible refine (chargeparklaw12_head_c.calls  true _ (hG.below (by repeat (first | (with_reducible first | exact HB.out | apply below_alloc | apply pw_below_drewN | apply below_drew1) | exact HB.out | (refine Below.setCell ?_ (Aside0.out (by assumption)) _)))) A3.out).mono ?_); rintro e w7 ⟨rfl, hb⟩; refine ⟨_, rfl, ?_⟩; have n0_ := Aside0.mk (blk_below (g := gb265) (o := .cells #[.string a0_0, .int .i64 a0_1, .int .i64 a0_2, .int .i64 a0_3, .int .i64 a0_4, .int .i64 a0_5, .int .i64 a0_6, .int .i64 a0_7] 23 (0, 0)) (by (with_reducible repeat (first | refine blk_drewN ?_ _ | refine blk_drew ?_ | refine blk_alloc ?_ _)); exact BK265.out) hb); have n1_ := Aside0.mk (below_step (by repeat (first | (with_reducible first | exact HB.out | apply below_alloc | apply pw_below_drewN | apply below_drew1 | refine below_set ?_ GE265.out) | exact HB.out)) hb); clear BK265; clear HB; have BK265 := n0_; have HB := n1_; clear n0_ n1_; (try clear hb); (try clear hb2); (try clear hk); (try clear hi); have hcz8_0 : w7.cell? ⟨gb265, 0, none⟩ = some (.string a0_0) := (blk_cell BK265.out 0).trans rfl; have hcz8_1 : w7.cell? ⟨gb265, 1, none⟩ = some (.int .i64 a0_1) := (blk_cell BK265.out 1).trans rfl; have hcz8_2 : w7.cell? ⟨gb265, 2, none⟩ = some (.int .i64 a0_2) := (blk_cell BK265.out 2).trans rfl; have hcz8_3 : w7.cell? ⟨gb265, 3, none⟩ = some (.int .i64 a0_3) := (blk_cell BK265.out 3).trans rfl; have hcz8_4 : w7.cell? ⟨gb265, 4, none⟩ = some (.int .i64 a0_4) := (blk_cell BK265.out 4).trans rfl; have hcz8_5 : w7.cell? ⟨gb265, 5, none⟩ = some (.int .i64 a0_5) := (blk_cell BK265.out 5).trans rfl; have hcz8_6 : w7.cell? ⟨gb265, 6, none⟩ = some (.int .i64 a0_6) := (blk_cell BK265.out 6).trans rfl; have hcz8_7 : w7.cell? ⟨gb265, 7, none⟩ = some (.int .i64 a0_7) := (blk_cell BK265.out 7).trans rfl; have hfz8_0 := blk_frozen BK265.out 0; have hfz8_1 := blk_frozen BK265.out 1; have hfz8_2 := blk_frozen BK265.out 2; have hfz8_3 := blk_frozen BK265.out 3; have hfz8_4 := blk_frozen BK265.out 4; have hfz8_5 := blk_frozen BK265.out 5; have hfz8_6 := blk_frozen BK265.out 6; have hfz8_7 := blk_frozen BK265.out 7) | ((with_reducible refine gate_callee (f := 18) rfl ?_); refine goesL_ (some 16) rfl rfl Tryd.func18 (by kernel_rfl) rfl #[.agg #[.string a0_0, .int .i64 a0_1, .int .i64 a0_2, .int .i64 a0_3, .int .i64 a0_4, .int .i64 a0_5, .int .i64 a0_6, .int .i64 a0_7]] rfl (by (try simp only [List.map_toArray, List.map_cons, List.map_nil]); first | done | rfl | (simp only [List.length_drop, List.length_take]; rfl)) ?_; (with_reducible refine (chargeparkref12_Charger.calls a0_0 a0_1 a0_2 a0_3 a0_4 a0_5 a0_6 a0_7 t266 _ A4.out).mono ?_); rintro e w9 ⟨rfl, hb⟩; refine ⟨_, rfl, ?_⟩; have n0_ := Aside0.mk (blk_below (g := gb265) (o := .cells #[.string a0_0, .int .i64 a0_1, .int .i64 a0_2, .int .i64 a0_3, .int .i64 a0_4, .int .i64 a0_5, .int .i64 a0_6, .int .i64 a0_7] 23 (0, 0)) (by (with_reducible repeat (first | refine blk_drewN ?_ _ | refine blk_drew ?_ | refine blk_alloc ?_ _)); exact BK265.out) hb); have n1_ := Aside0.mk (below_step (by repeat (first | (with_reducible first | exact HB.out | apply below_alloc | apply pw_below_drewN | apply below_drew1 | refine below_set ?_ GE265.out) | exact HB.out)) hb); clear BK265; clear HB; have BK265 := n0_; have HB := n1_; clear n0_ n1_; (try clear hb); (try clear hb2); (try clear hk); (try clear hi)))
  (try simp only [Act.put, List.setIfInBounds_toArray, List.set_cons_zero, List.set_cons_succ])
  go_cut [23] (fun v23 wc => ∃ (kq : Nat) (x23_4 : Bool), v23 = .bool x23_4 ∧ Aside0 (chargeparklaw12_ChargerLeases.j0 kq l1 true x23_4 a0_0 a0_1 a0_2 a0_3 a0_4 a0_5 a0_6 a0_7 = some r) ∧ Aside0 (kq ≤ k) ∧ Aside0 (wc.heap[gb265]? = some (.cells #[.string a0_0, .int .i64 a0_1, .int .i64 a0_2, .int .i64 a0_3, .int .i64 a0_4, .int .i64 a0_5, .int .i64 a0_6, .int .i64 a0_7] 23 (0, 0))) ∧ Aside0 (Below w.heap.size w wc))
  case first =>
    have H := HC5.out
    clear HC5
    by_cases c10 : t266 = true
    · subst c10
      have H1 : (chargeparklaw12_ChargerLeases.j0 k l1 true (decide ((l1.length : Int) > 100)) a0_0 a0_1 a0_2 a0_3 a0_4 a0_5 a0_6 a0_7) = some r := by rw [if_pos rfl] at H; exact H
      clear H
      have H := H1
      clear H1
      have H' := Aside0.mk H
      clear H
      go_wp2
      go_meet
      case rel => exact ⟨_, (decide ((l1.length : Int) > 100)), (by first | rfl | (simp; done) | (simp [*]; done)), H', ⟨by first | omega | exact Nat.le_refl _⟩, ⟨by (with_reducible repeat (first | refine blk_drewN ?_ _ | refine blk_drew ?_ | refine blk_alloc ?_ _)); exact BK265.out⟩, ⟨by repeat (first | (with_reducible first | exact HB.out | apply below_alloc | apply pw_below_drewN | apply below_drew1 | refine below_set ?_ GE265.out) | exact HB.out)⟩⟩
    · replace c10 := Bool.eq_false_iff.mpr c10
      subst c10
      have H1 : (chargeparklaw12_ChargerLeases.j0 k l1 true true a0_0 a0_1 a0_2 a0_3 a0_4 a0_5 a0_6 a0_7) = some r := by rw [if_neg (show ¬ (false = true) by decide)] at H; exact H
      clear H
      have H := H1
      clear H1
      have H' := Aside0.mk H
      clear H
      go_wp2
      go_meet
      case rel => exact ⟨_, (true), (by first | rfl | (simp; done) | (simp [*]; done)), H', ⟨by first | omega | exact Nat.le_refl _⟩, ⟨by (with_reducible repeat (first | refine blk_drewN ?_ _ | refine blk_drew ?_ | refine blk_alloc ?_ _)); exact BK265.out⟩, ⟨by repeat (first | (with_reducible first | exact HB.out | apply below_alloc | apply pw_below_drewN | apply below_drew1 | refine below_set ?_ GE265.out) | exact HB.out)⟩⟩
  case rest =>
    clear HC5
    try clear c1
    try clear p2
    try clear c5
    try clear c10
    try clear hcz8_0
    try clear hcz8_1
    try clear hcz8_2
    try clear hcz8_3
    try clear hcz8_4
    try clear hcz8_5
    try clear hcz8_6
    try clear hcz8_7
    try clear hfz8_0
    try clear hfz8_1
    try clear hfz8_2
    try clear hfz8_3
    try clear hfz8_4
    try clear hfz8_5
    try clear hfz8_6
    try clear hfz8_7
    obtain ⟨kq, x23_4, rfl, HA, HJ4, BK265, HB⟩ := hcut
    cases kq with
    | zero => exact absurd HA.out (by simp [chargeparklaw12_ChargerLeases.j0])
    | succ kj4 =>
      have H := HA.out
      clear HA
      simp only [chargeparklaw12_ChargerLeases.j0] at H
      by_cases c11 : x23_4 = true
      · subst c11
        have H1 : (some true) = some r := by rw [if_pos rfl] at H; exact H
        clear H
        have H := H1
        clear H1
        obtain rfl := Option.some.inj H
        simp only [Option.some.injEq, Prod.mk.injEq] at H
        obtain ⟨rfl⟩ := H
        go_wp2
        go_ret
        exact ⟨by first | rfl | (simp [errW_none, errW_some] <;> rfl) | (simp [*, errW_none, errW_some] <;> rfl), by repeat (first | (with_reducible first | exact HB.out | apply below_alloc | apply pw_below_drewN | apply below_drew1 | refine below_set ?_ GE265.out) | exact HB.out)⟩
      · replace c11 := Bool.eq_false_iff.mpr c11
        subst c11
        have H1 : ((charger_Start.f).bind fun _ => (chargeparklaw12_ChargerLeases.l0 kj4 l1 true 0 0 0 a0_0 a0_1 a0_2 a0_3 a0_4 a0_5 a0_6 a0_7 0 0 0 false)) = some r := by rw [if_neg (show ¬ (false = true) by decide)] at H; exact H
        clear H
        have H := H1
        clear H1
        replace H := Option.bind_eq_some_iff.mp H
        obtain ⟨tc_, A120, H⟩ := H
        obtain rfl : (0, 0, 0, false) = tc_ := Option.some.inj ((show charger_Start.f = some (0, 0, 0, false) by kernel_rfl).symm.trans A120)
        replace H : (chargeparklaw12_ChargerLeases.l0 kj4 l1 true 0 0 0 a0_0 a0_1 a0_2 a0_3 a0_4 a0_5 a0_6 a0_7 0 0 0 false) = some r := H
        have A12 := Aside0.mk A120
        clear A120
        have H' := Aside0.mk H
        clear H
        go_wp2_with (first | ((with_reducible refine gate_callee (f := 17) rfl ?_); refine goesL_ (some 25) rfl rfl Tryd.func17 (by kernel_rfl) rfl #[] rfl (by (try simp only [List.map_toArray, List.map_cons, List.map_nil]); first | done | rfl | (simp only [List.length_drop, List.length_take]; rfl)) ?_; (with_reducible refine (charger_Start.calls  0 0 0 false _ A12.out).mono ?_); rintro e w13 ⟨rfl, hb⟩; refine ⟨_, rfl, ?_⟩; have n0_ := Aside0.mk (blk_below (g := gb265) (o := .cells #[.string a0_0, .int .i64 a0_1, .int .i64 a0_2, .int .i64 a0_3, .int .i64 a0_4, .int .i64 a0_5, .int .i64 a0_6, .int .i64 a0_7] 23 (0, 0)) (by (with_reducible repeat (first | refine blk_drewN ?_ _ | refine blk_drew ?_ | refine blk_alloc ?_ _)); exact BK265.out) hb); have n1_ := Aside0.mk (below_step (by repeat (first | (with_reducible first | exact HB.out | apply below_alloc | apply pw_below_drewN | apply below_drew1 | refine below_set ?_ GE265.out) | exact HB.out)) hb); clear BK265; clear HB; have BK265 := n0_; have HB := n1_; clear n0_ n1_; (try clear hb); (try clear hb2); (try clear hk); (try clear hi)) | ((with_reducible refine gate_dst (N := 7) rfl ?_); (try (refine gate_guard (by rfl) ?_; dsimp only)); refine box_event ?hg (N := 7) ?hd (cs := #[.int .i64 0, .int .i64 0, .int .i64 0, .bool false]) (t := 25) ?hr ?_; (case hd => rfl); (case hg => rfl); (case hr => first | (go_simp; done) | (go_simp; rfl)); intro gb271 hg w14 hbox hb; have n0_ := Aside0.mk (blk_below (g := gb265) (o := .cells #[.string a0_0, .int .i64 a0_1, .int .i64 a0_2, .int .i64 a0_3, .int .i64 a0_4, .int .i64 a0_5, .int .i64 a0_6, .int .i64 a0_7] 23 (0, 0)) (by (with_reducible repeat (first | refine blk_drewN ?_ _ | refine blk_drew ?_ | refine blk_alloc ?_ _)); exact BK265.out) hb); have n1_ := Aside0.mk (below_step (by repeat (first | (with_reducible first | exact HB.out | apply below_alloc | apply pw_below_drewN | apply below_drew1 | refine below_set ?_ GE265.out) | exact HB.out)) hb); have n2_ := Aside0.mk (hbox); have n3_ := Aside0.mk ((by rw [hg]; exact (below_size (by repeat (first | (with_reducible first | exact HB.out | apply below_alloc | apply pw_below_drewN | apply below_drew1 | refine below_set ?_ GE265.out) | exact HB.out))) : w.heap.size ≤ gb271)); have n4_ := Aside0.mk ((by rw [hg]; exact (below_size (by repeat (first | (with_reducible first | exact HB.out | apply below_alloc | apply pw_below_drewN | apply below_drew1 | refine below_set ?_ GE265.out) | exact HB.out))) : w.heap.size ≤ gb271)); have n5_ := Aside0.mk ((by rw [hg]; exact Nat.ne_of_lt (blk_lt (g := gb265) (o := .cells #[.string a0_0, .int .i64 a0_1, .int .i64 a0_2, .int .i64 a0_3, .int .i64 a0_4, .int .i64 a0_5, .int .i64 a0_6, .int .i64 a0_7] 23 (0, 0)) (by (with_reducible repeat (first | refine blk_drewN ?_ _ | refine blk_drew ?_ | refine blk_alloc ?_ _)); exact BK265.out)) : gb265 ≠ gb271)); have n6_ := Aside0.mk ((by rw [hg]; exact Nat.ne_of_gt (blk_lt (g := gb265) (o := .cells #[.string a0_0, .int .i64 a0_1, .int .i64 a0_2, .int .i64 a0_3, .int .i64 a0_4, .int .i64 a0_5, .int .i64 a0_6, .int .i64 a0_7] 23 (0, 0)) (by (with_reducible repeat (first | refine blk_drewN ?_ _ | refine blk_drew ?_ | refine blk_alloc ?_ _)); exact BK265.out)) : gb271 ≠ gb265)); clear BK265; clear HB; have BK265 := n0_; have HB := n1_; have BK271 := n2_; have GW271 := n3_; have GE271 := n4_; have NB265_271 := n5_; have NB271_265 := n6_; clear n0_ n1_ n2_ n3_ n4_ n5_ n6_; clear hb hbox hg; have hnb15 := NB271_265.out; have hnc15 := NB265_271.out; have hcz16_0 : w14.cell? ⟨gb271, 0, none⟩ = some (.int .i64 0) := (blk_cell BK271.out 0).trans rfl; have hcz16_1 : w14.cell? ⟨gb271, 1, none⟩ = some (.int .i64 0) := (blk_cell BK271.out 1).trans rfl; have hcz16_2 : w14.cell? ⟨gb271, 2, none⟩ = some (.int .i64 0) := (blk_cell BK271.out 2).trans rfl; have hcz16_3 : w14.cell? ⟨gb271, 3, none⟩ = some (.bool false) := (blk_cell BK271.out 3).trans rfl; have hfz16_0 := blk_frozen BK271.out 0; have hfz16_1 := blk_frozen BK271.out 1; have hfz16_2 := blk_frozen BK271.out 2; have hfz16_3 := blk_frozen BK271.out 3))
        go_loopg [5, 8, 9, 10] kj4 (fun kq v5 v8 v9 v10 w' => ∃ (x5_2 : Bool) (x8_2 : Int) (x9_2 : Int) (x10_2 : Int) (x272000_2 : Int) (x272001_2 : Int) (x272002_2 : Int) (x272003_2 : Bool), v5 = .bool x5_2 ∧ v8 = .int .i64 x8_2 ∧ v9 = .int .i64 x9_2 ∧ v10 = .int .i64 x10_2 ∧ Aside0 (chargeparklaw12_ChargerLeases.l0 kq l1 x5_2 x8_2 x9_2 x10_2 a0_0 a0_1 a0_2 a0_3 a0_4 a0_5 a0_6 a0_7 x272000_2 x272001_2 x272002_2 x272003_2 = some r) ∧ Aside0 (kq ≤ kj4) ∧ Aside0 (w'.heap[gb265]? = some (.cells #[.string a0_0, .int .i64 a0_1, .int .i64 a0_2, .int .i64 a0_3, .int .i64 a0_4, .int .i64 a0_5, .int .i64 a0_6, .int .i64 a0_7] 23 (0, 0))) ∧ Aside0 (w'.heap[gb271]? = some (.cells #[.int .i64 x272000_2, .int .i64 x272001_2, .int .i64 x272002_2, .bool x272003_2] 25 (0, 0))) ∧ Aside0 (Below w.heap.size w w'))
        case atStart => exact ⟨(true), (0), (0), (0), (0), (0), (0), (false), (by first | rfl | (simp; done) | (simp [*]; done)), (by first | rfl | (simp; done) | (simp [*]; done)), (by first | rfl | (simp; done) | (simp [*]; done)), (by first | rfl | (simp; done) | (simp [*]; done)), H', ⟨Nat.le_refl _⟩, ⟨by (with_reducible repeat (first | refine blk_drewN ?_ _ | refine blk_drew ?_ | refine blk_alloc ?_ _)); refine blk_far ?_ NB265_271.out _; (with_reducible repeat (first | refine blk_drewN ?_ _ | refine blk_drew ?_ | refine blk_alloc ?_ _)); refine blk_far ?_ NB265_271.out _; (with_reducible repeat (first | refine blk_drewN ?_ _ | refine blk_drew ?_ | refine blk_alloc ?_ _)); refine blk_far ?_ NB265_271.out _; (with_reducible repeat (first | refine blk_drewN ?_ _ | refine blk_drew ?_ | refine blk_alloc ?_ _)); refine blk_far ?_ NB265_271.out _; (with_reducible repeat (first | refine blk_drewN ?_ _ | refine blk_drew ?_ | refine blk_alloc ?_ _)); exact BK265.out⟩, ⟨by (with_reducible repeat (first | refine blk_drewN ?_ _ | refine blk_drew ?_ | refine blk_alloc ?_ _)); refine blk_put (cs := #[.int .i64 0, .int .i64 0, .int .i64 0, .bool false]) ?_ 3 _ rfl; (with_reducible repeat (first | refine blk_drewN ?_ _ | refine blk_drew ?_ | refine blk_alloc ?_ _)); refine blk_put (cs := #[.int .i64 0, .int .i64 0, .int .i64 0, .bool false]) ?_ 2 _ rfl; (with_reducible repeat (first | refine blk_drewN ?_ _ | refine blk_drew ?_ | refine blk_alloc ?_ _)); refine blk_put (cs := #[.int .i64 0, .int .i64 0, .int .i64 0, .bool false]) ?_ 1 _ rfl; (with_reducible repeat (first | refine blk_drewN ?_ _ | refine blk_drew ?_ | refine blk_alloc ?_ _)); refine blk_put (cs := #[.int .i64 0, .int .i64 0, .int .i64 0, .bool false]) ?_ 0 _ rfl; (with_reducible repeat (first | refine blk_drewN ?_ _ | refine blk_drew ?_ | refine blk_alloc ?_ _)); exact BK271.out⟩, ⟨by repeat (first | (with_reducible first | exact HB.out | apply below_alloc | apply pw_below_drewN | apply below_drew1 | refine below_set ?_ GE265.out | refine below_set ?_ GE271.out) | exact HB.out)⟩⟩
        case round =>
          clear H'
          try clear c1
          try clear p2
          try clear c5
          try clear c10
          try clear c11
          try clear c15
          try clear hcz16_0
          try clear hcz16_1
          try clear hcz16_2
          try clear hcz16_3
          try clear hcz8_0
          try clear hcz8_1
          try clear hcz8_2
          try clear hcz8_3
          try clear hcz8_4
          try clear hcz8_5
          try clear hcz8_6
          try clear hcz8_7
          try clear hfz16_0
          try clear hfz16_1
          try clear hfz16_2
          try clear hfz16_3
          try clear hfz8_0
          try clear hfz8_1
          try clear hfz8_2
          try clear hfz8_3
          try clear hfz8_4
          try clear hfz8_5
          try clear hfz8_6
          try clear hfz8_7
          try clear p2
          obtain ⟨x5_2, x8_2, x9_2, x10_2, x272000_2, x272001_2, x272002_2, x272003_2, rfl, rfl, rfl, rfl, HA, HK2, BK265, BK271, HB⟩ := hrel
          cases gk with
          | zero => exact absurd HA.out (by simp [chargeparklaw12_ChargerLeases.l0])
          | succ k2 =>
            have H := HA.out
            clear HA
            simp only [chargeparklaw12_ChargerLeases.l0] at H
            by_cases c17 : x10_2 < (l1.length : Int)
            · rw [if_pos c17] at H
              have c17b0 : decide (x10_2 < (l1.length : Int)) = true := decide_eq_true c17
              clear c17
              by_cases c18 : 0 ≤ x10_2
              · rw [if_pos c18] at H
                have c18b0 : decide (0 ≤ x10_2) = true := decide_eq_true c18
                clear c18
                replace H := Option.bind_eq_some_iff.mp H
                obtain ⟨⟨t273, t274, t275, t276, t277⟩, A190, H⟩ := H
                replace H : (if t277 = 0 then (if ((rd_T27 l1 x10_2).f0) = 7 then (chargeparklaw12_ChargerLeases.j2 k2 l1 x5_2 ((rd_T27 l1 x10_2).f1) ((rd_T27 l1 x10_2).f2) x10_2 a0_0 a0_1 a0_2 a0_3 a0_4 a0_5 a0_6 a0_7 t273 t274 t275 t276) else (if ((rd_T27 l1 x10_2).f0) = 8 then (chargeparklaw12_ChargerLeases.j2 k2 l1 x5_2 x8_2 (wrap64 (x9_2 - 1)) x10_2 a0_0 a0_1 a0_2 a0_3 a0_4 a0_5 a0_6 a0_7 t273 t274 t275 t276) else (if ((rd_T27 l1 x10_2).f0) = 9 then (chargeparklaw12_ChargerLeases.j2 k2 l1 x5_2 x8_2 0 x10_2 a0_0 a0_1 a0_2 a0_3 a0_4 a0_5 a0_6 a0_7 t273 t274 t275 t276) else (chargeparklaw12_ChargerLeases.j2 k2 l1 x5_2 x8_2 x9_2 x10_2 a0_0 a0_1 a0_2 a0_3 a0_4 a0_5 a0_6 a0_7 t273 t274 t275 t276)))) else (chargeparklaw12_ChargerLeases.l0 k2 l1 x5_2 x8_2 x9_2 (wrap64 (x10_2 + 1)) a0_0 a0_1 a0_2 a0_3 a0_4 a0_5 a0_6 a0_7 x272000_2 x272001_2 x272002_2 x272003_2)) = some r := H
                have A19 := Aside0.mk A190
                clear A190
                by_cases c20 : t277 = 0
                · rw [if_pos c20] at H
                  have c20b0 : (t277 == 0) = true := beq_iff_eq.mpr c20
                  have c20b1 : (t277 != 0) = false := bne_eq_false_iff_eq.mpr c20
                  clear c20
                  have HC21 := Aside0.mk H
                  clear H
                  try go_wp2
                  have n0_ := Aside0.mk (blk_drew BK265.out)
                  have n1_ := Aside0.mk (blk_drew BK271.out)
                  have n2_ := Aside0.mk (below_drew1 HB.out)
                  clear BK265
                  clear BK271
                  clear HB
                  have BK265 := n0_
                  have BK271 := n1_
                  have HB := n2_
                  clear n0_ n1_ n2_
                  have p272 : 0 ≤ (x10_2 : Int) := of_decide_eq_true (by first | (with_reducible assumption) | assumption)
                  have q272 : x10_2 < (l1.length : Int) := of_decide_eq_true (by first | (with_reducible assumption) | assumption)
                  obtain ⟨ad272, e272, hx272_0, hx272_1, hx272_2⟩ := at_T27 HR1.out x10_2 p272 q272
                  have hw272_2 := hx272_2
                  have hw272_1 := hx272_1
                  have hw272_0 := hx272_0
                  cases e272
                  replace hx272_0 := (HB.out.cell (World.block_lt_of_cell? w _ hx272_0)).trans hx272_0
                  replace hx272_1 := (HB.out.cell (World.block_lt_of_cell? w _ hx272_1)).trans hx272_1
                  replace hx272_2 := (HB.out.cell (World.block_lt_of_cell? w _ hx272_2)).trans hx272_2
                  replace p272 := eq_true p272
                  replace q272 := eq_true q272
                  refine start_ (n := 13) (S := fun w' => w'.cell? ⟨gb265, 0, none⟩ = some (.string a0_0) ∧ w'.cell? ⟨gb265, 1, none⟩ = some (.int .i64 a0_1) ∧ w'.cell? ⟨gb265, 2, none⟩ = some (.int .i64 a0_2) ∧ w'.cell? ⟨gb265, 3, none⟩ = some (.int .i64 a0_3) ∧ w'.cell? ⟨gb265, 4, none⟩ = some (.int .i64 a0_4) ∧ w'.cell? ⟨gb265, 5, none⟩ = some (.int .i64 a0_5) ∧ w'.cell? ⟨gb265, 6, none⟩ = some (.int .i64 a0_6) ∧ w'.cell? ⟨gb265, 7, none⟩ = some (.int .i64 a0_7) ∧ w'.cell? ⟨gb271, 0, none⟩ = some (.int .i64 x272000_2) ∧ w'.cell? ⟨gb271, 1, none⟩ = some (.int .i64 x272001_2) ∧ w'.cell? ⟨gb271, 2, none⟩ = some (.int .i64 x272002_2) ∧ w'.cell? ⟨gb271, 3, none⟩ = some (.bool x272003_2) ∧ w'.cell? (ad272.add ((x10_2).toNat * 3)) = some (.int .i64 ((rd_T27 l1 x10_2).f0)) ∧ w'.cell? ⟨(ad272.add ((x10_2).toNat * 3)).block, (ad272.add ((x10_2).toNat * 3)).off + 1, none⟩ = some (.int .i64 ((rd_T27 l1 x10_2).f1)) ∧ w'.cell? ⟨(ad272.add ((x10_2).toNat * 3)).block, (ad272.add ((x10_2).toNat * 3)).off + 2, none⟩ = some (.int .i64 ((rd_T27 l1 x10_2).f2))) (ds := []) #[false, false, false, false, false, false, false, false, false, false, false, false, false] (by kernel_rfl) rfl rfl ⟨(blk_cell BK265.out 0).trans rfl, (blk_cell BK265.out 1).trans rfl, (blk_cell BK265.out 2).trans rfl, (blk_cell BK265.out 3).trans rfl, (blk_cell BK265.out 4).trans rfl, (blk_cell BK265.out 5).trans rfl, (blk_cell BK265.out 6).trans rfl, (blk_cell BK265.out 7).trans rfl, (blk_cell BK271.out 0).trans rfl, (blk_cell BK271.out 1).trans rfl, (blk_cell BK271.out 2).trans rfl, (blk_cell BK271.out 3).trans rfl, ((HB.out.cell (World.block_lt_of_cell? w _ hw272_0)).trans hw272_0), ((HB.out.cell (World.block_lt_of_cell? w _ hw272_1)).trans hw272_1), ((HB.out.cell (World.block_lt_of_cell? w _ hw272_2)).trans hw272_2)⟩ (fun hHeld => ?_); refine with_tabW chargeparklaw12_ChargerLeases.tab11 chargeparklaw12_ChargerLeases.bits11 (fun HT_ HW_ => ?_)
                  generalize wr.drew = w22 at BK265 BK271 HB hx272_0 hx272_1 hx272_2 hHeld ⊢
                  refine pure_ (i := 2) (N := some 35) (v := ?_) (a' := ?_) #[false, false, true, false, false, false, false, false, false, false, false, false, false] rfl rfl (any_of HT_.out (by kernel_rfl)) (fun _ _ _ h => h) (Or.inl ⟨by rfl, ?_⟩) ?_ ?_
                  rotate_left
                  · intro w'
                    go_simp
                    with_reducible rfl
                  rotate_left
                  · simp only [Act.put, List.setIfInBounds_toArray, List.set_cons_zero, List.set_cons_succ, i64_w, i32_w]
                    rfl
                  refine pure_ (i := 3) (N := some 36) (v := ?_) (a' := ?_) #[false, false, true, true, false, false, false, false, false, false, false, false, false] rfl rfl (any_of HT_.out (by kernel_rfl)) (fun _ _ _ h => h) (Or.inl ⟨by rfl, ?_⟩) ?_ ?_
                  rotate_left
                  · intro w'
                    go_simp
                    with_reducible rfl
                  rotate_left
                  · simp only [Act.put, List.setIfInBounds_toArray, List.set_cons_zero, List.set_cons_succ, i64_w, i32_w]
                    rfl
                  refine pure_ (i := 4) (N := some 37) (v := ?_) (a' := ?_) #[false, false, true, true, true, false, false, false, false, false, false, false, false] rfl rfl (any_of HT_.out (by kernel_rfl)) (fun _ _ _ h => h) (Or.inl ⟨by rfl, ?_⟩) ?_ ?_
                  rotate_left
                  · intro w'
                    go_simp
                    with_reducible rfl
                  rotate_left
                  · simp only [Act.put, List.setIfInBounds_toArray, List.set_cons_zero, List.set_cons_succ, i64_w, i32_w]
                    rfl
                  refine take_ (i := 0) (N := some 33) (v := ?_) (a' := ?_) #[true, false, true, true, true, false, false, false, false, false, false, false, false] rfl rfl (take_ofW HT_.out HW_.out (by kernel_rfl)) (fun _ _ _ h => h) (Or.inl ⟨by rfl, ?_⟩) hHeld ?_ ?_
                  rotate_left
                  · rintro w' ⟨s0, s1, s2, s3, s4, s5, s6, s7, s8, s9, s10, s11, s12, s13, s14⟩
                    go_simp
                    with_reducible rfl
                  rotate_left
                  · simp only [Act.put, List.setIfInBounds_toArray, List.set_cons_zero, List.set_cons_succ, i64_w, i32_w]
                    rfl
                  refine take_ (i := 1) (N := some 34) (v := ?_) (a' := ?_) #[true, true, true, true, true, false, false, false, false, false, false, false, false] rfl rfl (take_ofW HT_.out HW_.out (by kernel_rfl)) (fun _ _ _ h => h) (Or.inl ⟨by rfl, ?_⟩) hHeld ?_ ?_
                  rotate_left
                  · rintro w' ⟨s0, s1, s2, s3, s4, s5, s6, s7, s8, s9, s10, s11, s12, s13, s14⟩
                    go_simp
                    with_reducible rfl
                  rotate_left
                  · simp only [Act.put, List.setIfInBounds_toArray, List.set_cons_zero, List.set_cons_succ, i64_w, i32_w]
                    rfl
                  refine take_ (i := 5) (N := some 38) (v := ?_) (a' := ?_) #[true, true, true, true, true, true, false, false, false, false, false, false, false] rfl rfl (take_ofW HT_.out HW_.out (by kernel_rfl)) (fun _ _ _ h => h) (Or.inl ⟨by rfl, ?_⟩) hHeld ?_ ?_
                  rotate_left
                  · rintro w' ⟨s0, s1, s2, s3, s4, s5, s6, s7, s8, s9, s10, s11, s12, s13, s14⟩
                    go_simp
                    with_reducible rfl
                  rotate_left
                  · simp only [Act.put, List.setIfInBounds_toArray, List.set_cons_zero, List.set_cons_succ, i64_w, i32_w]
                    rfl
                  refine join_ (σ := Nat) 2 #[true, true, true, true, true, true, true, true, true, true, true, false, false] (fun s_ => [(39, .tuple #[.agg #[.int .i64 t273, .int .i64 t274, .int .i64 t275, .bool t276], .int .i64 t277]), (11, .pointer (some ⟨s_, 0, none⟩)), (32, .tuple #[.agg #[.int .i64 t273, .int .i64 t274, .int .i64 t275, .bool t276], .int .i64 t277]), (40, .agg #[.int .i64 t273, .int .i64 t274, .int .i64 t275, .bool t276]), (41, .int .i64 t277)]) (fun s_ w' => (w'.cell? ⟨gb265, 0, none⟩ = some (.string a0_0) ∧ w'.cell? ⟨gb265, 1, none⟩ = some (.int .i64 a0_1) ∧ w'.cell? ⟨gb265, 2, none⟩ = some (.int .i64 a0_2) ∧ w'.cell? ⟨gb265, 3, none⟩ = some (.int .i64 a0_3) ∧ w'.cell? ⟨gb265, 4, none⟩ = some (.int .i64 a0_4) ∧ w'.cell? ⟨gb265, 5, none⟩ = some (.int .i64 a0_5) ∧ w'.cell? ⟨gb265, 6, none⟩ = some (.int .i64 a0_6) ∧ w'.cell? ⟨gb265, 7, none⟩ = some (.int .i64 a0_7) ∧ w'.cell? ⟨gb271, 0, none⟩ = some (.int .i64 x272000_2) ∧ w'.cell? ⟨gb271, 1, none⟩ = some (.int .i64 x272001_2) ∧ w'.cell? ⟨gb271, 2, none⟩ = some (.int .i64 x272002_2) ∧ w'.cell? ⟨gb271, 3, none⟩ = some (.bool x272003_2) ∧ w'.cell? (ad272.add ((x10_2).toNat * 3)) = some (.int .i64 ((rd_T27 l1 x10_2).f0)) ∧ w'.cell? ⟨(ad272.add ((x10_2).toNat * 3)).block, (ad272.add ((x10_2).toNat * 3)).off + 1, none⟩ = some (.int .i64 ((rd_T27 l1 x10_2).f1)) ∧ w'.cell? ⟨(ad272.add ((x10_2).toNat * 3)).block, (ad272.add ((x10_2).toNat * 3)).off + 2, none⟩ = some (.int .i64 ((rd_T27 l1 x10_2).f2))) ∧ (w'.heap[gb265]? = some (.cells #[.string a0_0, .int .i64 a0_1, .int .i64 a0_2, .int .i64 a0_3, .int .i64 a0_4, .int .i64 a0_5, .int .i64 a0_6, .int .i64 a0_7] 23 (0, 0))) ∧ (w'.heap[gb271]? = some (.cells #[.int .i64 x272000_2, .int .i64 x272001_2, .int .i64 x272002_2, .bool x272003_2] 25 (0, 0))) ∧ (w'.heap[s_]? = some (.cells #[.int .i64 0, .int .i64 0, .int .i64 0, .bool false] 25 (0, 0))) ∧ (w.heap.size ≤ s_) ∧ (w.heap.size ≤ s_) ∧ (gb265 ≠ s_) ∧ (s_ ≠ gb265) ∧ (gb271 ≠ s_) ∧ (s_ ≠ gb271) ∧ (Below w.heap.size w w')) ?_ ?_
                  rotate_left
                  · intro hCont
                    refine two_ (i := 6) (j := 10) (Ni := some 39) (Nj := some 11) #[true, true, true, true, true, true, true, false, false, false, false, false, false] #[true, true, true, true, true, true, false, false, false, false, true, false, false] rfl rfl rfl rfl (two_of HT_.out (by kernel_rfl)) (by decide) (by decide) (fun K hK => ?_) (fun K hK => ?_)
                    · skip
                      refine goes_ Tryd.func11 (by kernel_rfl) rfl #[.agg #[.string a0_0, .int .i64 a0_1, .int .i64 a0_2, .int .i64 a0_3, .int .i64 a0_4, .int .i64 a0_5, .int .i64 a0_6, .int .i64 a0_7], .agg #[.int .i64 x272000_2, .int .i64 x272001_2, .int .i64 x272002_2, .bool x272003_2], .agg #[.int .i64 ((rd_T27 l1 x10_2).f0), .int .i64 ((rd_T27 l1 x10_2).f1), .int .i64 ((rd_T27 l1 x10_2).f2)]] (by rfl) rfl rfl (by (try simp only [List.map_toArray, List.map_cons, List.map_nil]); first | done | rfl | (simp only [List.length_drop, List.length_take]; rfl)) ?_
                      with_reducible refine (charger_Step.calls a0_0 a0_1 a0_2 a0_3 a0_4 a0_5 a0_6 a0_7 x272000_2 x272001_2 x272002_2 x272003_2 ((rd_T27 l1 x10_2).f0) ((rd_T27 l1 x10_2).f1) ((rd_T27 l1 x10_2).f2) t273 t274 t275 t276 t277 _ (hG.below (by repeat (first | (with_reducible first | exact HB.out | apply below_alloc | apply pw_below_drewN | apply below_drew1) | exact HB.out | (refine Below.setCell ?_ (Aside0.out (by assumption)) _)))) A19.out).mono ?_
                      rintro e w23 ⟨rfl, hb⟩
                      refine ⟨_, rfl, ?_⟩
                      have n0_ := Aside0.mk (blk_below (g := gb265) (o := .cells #[.string a0_0, .int .i64 a0_1, .int .i64 a0_2, .int .i64 a0_3, .int .i64 a0_4, .int .i64 a0_5, .int .i64 a0_6, .int .i64 a0_7] 23 (0, 0)) (by (with_reducible repeat (first | refine blk_drewN ?_ _ | refine blk_drew ?_ | refine blk_alloc ?_ _)); exact BK265.out) hb)
                      have n1_ := Aside0.mk (blk_below (g := gb271) (o := .cells #[.int .i64 x272000_2, .int .i64 x272001_2, .int .i64 x272002_2, .bool x272003_2] 25 (0, 0)) (by (with_reducible repeat (first | refine blk_drewN ?_ _ | refine blk_drew ?_ | refine blk_alloc ?_ _)); exact BK271.out) hb)
                      have n2_ := Aside0.mk (below_step (by repeat (first | (with_reducible first | exact HB.out | apply below_alloc | apply pw_below_drewN | apply below_drew1 | refine below_set ?_ GE265.out | refine below_set ?_ GE271.out) | exact HB.out)) hb)
                      clear BK265
                      clear BK271
                      clear HB
                      have BK265 := n0_
                      have BK271 := n1_
                      have HB := n2_
                      clear n0_ n1_ n2_
                      (try clear hb)
                      (try clear hb2)
                      (try clear hk)
                      (try clear hi)
                      refine hK.out _ _ ⟨(blk_cell BK265.out 0).trans rfl, (blk_cell BK265.out 1).trans rfl, (blk_cell BK265.out 2).trans rfl, (blk_cell BK265.out 3).trans rfl, (blk_cell BK265.out 4).trans rfl, (blk_cell BK265.out 5).trans rfl, (blk_cell BK265.out 6).trans rfl, (blk_cell BK265.out 7).trans rfl, (blk_cell BK271.out 0).trans rfl, (blk_cell BK271.out 1).trans rfl, (blk_cell BK271.out 2).trans rfl, (blk_cell BK271.out 3).trans rfl, ((HB.out.cell (World.block_lt_of_cell? w _ hw272_0)).trans hw272_0), ((HB.out.cell (World.block_lt_of_cell? w _ hw272_1)).trans hw272_1), ((HB.out.cell (World.block_lt_of_cell? w _ hw272_2)).trans hw272_2)⟩ (fun hHeld => ?_)
                      clear hK K
                      refine norm_ (a' := ?_) ?_ ?_
                      rotate_left
                      · show Act.put _ (some 39) _ = _
                        simp only [Act.put, List.setIfInBounds_toArray, List.set_cons_zero, List.set_cons_succ, i64_w, i32_w]
                        rfl
                      refine pure_ (i := 7) (N := some 32) (v := ?_) (a' := ?_) #[true, true, true, true, true, true, true, true, false, false, false, false, false] rfl rfl (any_of HT_.out (by kernel_rfl)) (fun _ _ _ h => h) (Or.inl ⟨by rfl, ?_⟩) ?_ ?_
                      rotate_left
                      · intro w'
                        go_simp
                        with_reducible rfl
                      rotate_left
                      · simp only [Act.put, List.setIfInBounds_toArray, List.set_cons_zero, List.set_cons_succ, i64_w, i32_w]
                        rfl
                      refine pure_ (i := 8) (N := some 40) (v := ?_) (a' := ?_) #[true, true, true, true, true, true, true, true, true, false, false, false, false] rfl rfl (any_of HT_.out (by kernel_rfl)) (fun _ _ _ h => h) (Or.inl ⟨by rfl, ?_⟩) ?_ ?_
                      rotate_left
                      · intro w'
                        go_simp
                        with_reducible rfl
                      rotate_left
                      · simp only [Act.put, List.setIfInBounds_toArray, List.set_cons_zero, List.set_cons_succ, i64_w, i32_w]
                        rfl
                      refine pure_ (i := 9) (N := some 41) (v := ?_) (a' := ?_) #[true, true, true, true, true, true, true, true, true, true, false, false, false] rfl rfl (any_of HT_.out (by kernel_rfl)) (fun _ _ _ h => h) (Or.inl ⟨by rfl, ?_⟩) ?_ ?_
                      rotate_left
                      · intro w'
                        go_simp
                        with_reducible rfl
                      rotate_left
                      · simp only [Act.put, List.setIfInBounds_toArray, List.set_cons_zero, List.set_cons_succ, i64_w, i32_w]
                        rfl
                      refine one_ (i := 10) (N := some 11) #[true, true, true, true, true, true, true, true, true, true, true, false, false] rfl rfl (one_of HT_.out (by kernel_rfl)) (by decide) (fun K hK => ?_)
                      refine box_step ?hg (N := 11) ?hd (cs := #[.int .i64 0, .int .i64 0, .int .i64 0, .bool false]) (t := 25) ?hr ?_; (case hd => rfl); (case hg => rfl); (case hr => first | (go_simp; done) | (go_simp; rfl))
                      intro gb278 hg w24 hbox hb
                      have n0_ := Aside0.mk (blk_below (g := gb265) (o := .cells #[.string a0_0, .int .i64 a0_1, .int .i64 a0_2, .int .i64 a0_3, .int .i64 a0_4, .int .i64 a0_5, .int .i64 a0_6, .int .i64 a0_7] 23 (0, 0)) (by (with_reducible repeat (first | refine blk_drewN ?_ _ | refine blk_drew ?_ | refine blk_alloc ?_ _)); exact BK265.out) hb)
                      have n1_ := Aside0.mk (blk_below (g := gb271) (o := .cells #[.int .i64 x272000_2, .int .i64 x272001_2, .int .i64 x272002_2, .bool x272003_2] 25 (0, 0)) (by (with_reducible repeat (first | refine blk_drewN ?_ _ | refine blk_drew ?_ | refine blk_alloc ?_ _)); exact BK271.out) hb)
                      have n2_ := Aside0.mk (below_step (by repeat (first | (with_reducible first | exact HB.out | apply below_alloc | apply pw_below_drewN | apply below_drew1 | refine below_set ?_ GE265.out | refine below_set ?_ GE271.out) | exact HB.out)) hb)
                      have n3_ := Aside0.mk (hbox)
                      have n4_ := Aside0.mk ((by rw [hg]; exact (below_size (by repeat (first | (with_reducible first | exact HB.out | apply below_alloc | apply pw_below_drewN | apply below_drew1 | refine below_set ?_ GE265.out | refine below_set ?_ GE271.out) | exact HB.out))) : w.heap.size ≤ gb278))
                      have n5_ := Aside0.mk ((by rw [hg]; exact (below_size (by repeat (first | (with_reducible first | exact HB.out | apply below_alloc | apply pw_below_drewN | apply below_drew1 | refine below_set ?_ GE265.out | refine below_set ?_ GE271.out) | exact HB.out))) : w.heap.size ≤ gb278))
                      have n6_ := Aside0.mk ((by rw [hg]; exact Nat.ne_of_lt (blk_lt (g := gb265) (o := .cells #[.string a0_0, .int .i64 a0_1, .int .i64 a0_2, .int .i64 a0_3, .int .i64 a0_4, .int .i64 a0_5, .int .i64 a0_6, .int .i64 a0_7] 23 (0, 0)) (by (with_reducible repeat (first | refine blk_drewN ?_ _ | refine blk_drew ?_ | refine blk_alloc ?_ _)); exact BK265.out)) : gb265 ≠ gb278))
                      have n7_ := Aside0.mk ((by rw [hg]; exact Nat.ne_of_gt (blk_lt (g := gb265) (o := .cells #[.string a0_0, .int .i64 a0_1, .int .i64 a0_2, .int .i64 a0_3, .int .i64 a0_4, .int .i64 a0_5, .int .i64 a0_6, .int .i64 a0_7] 23 (0, 0)) (by (with_reducible repeat (first | refine blk_drewN ?_ _ | refine blk_drew ?_ | refine blk_alloc ?_ _)); exact BK265.out)) : gb278 ≠ gb265))
                      have n8_ := Aside0.mk ((by rw [hg]; exact Nat.ne_of_lt (blk_lt (g := gb271) (o := .cells #[.int .i64 x272000_2, .int .i64 x272001_2, .int .i64 x272002_2, .bool x272003_2] 25 (0, 0)) (by (with_reducible repeat (first | refine blk_drewN ?_ _ | refine blk_drew ?_ | refine blk_alloc ?_ _)); exact BK271.out)) : gb271 ≠ gb278))
                      have n9_ := Aside0.mk ((by rw [hg]; exact Nat.ne_of_gt (blk_lt (g := gb271) (o := .cells #[.int .i64 x272000_2, .int .i64 x272001_2, .int .i64 x272002_2, .bool x272003_2] 25 (0, 0)) (by (with_reducible repeat (first | refine blk_drewN ?_ _ | refine blk_drew ?_ | refine blk_alloc ?_ _)); exact BK271.out)) : gb278 ≠ gb271))
                      clear BK265
                      clear BK271
                      clear HB
                      have BK265 := n0_
                      have BK271 := n1_
                      have HB := n2_
                      have BK278 := n3_
                      have GW278 := n4_
                      have GE278 := n5_
                      have NB265_278 := n6_
                      have NB278_265 := n7_
                      have NB271_278 := n8_
                      have NB278_271 := n9_
                      clear n0_ n1_ n2_ n3_ n4_ n5_ n6_ n7_ n8_ n9_
                      clear hb hbox hg
                      refine hK.out _ _ ⟨(blk_cell BK265.out 0).trans rfl, (blk_cell BK265.out 1).trans rfl, (blk_cell BK265.out 2).trans rfl, (blk_cell BK265.out 3).trans rfl, (blk_cell BK265.out 4).trans rfl, (blk_cell BK265.out 5).trans rfl, (blk_cell BK265.out 6).trans rfl, (blk_cell BK265.out 7).trans rfl, (blk_cell BK271.out 0).trans rfl, (blk_cell BK271.out 1).trans rfl, (blk_cell BK271.out 2).trans rfl, (blk_cell BK271.out 3).trans rfl, ((HB.out.cell (World.block_lt_of_cell? w _ hw272_0)).trans hw272_0), ((HB.out.cell (World.block_lt_of_cell? w _ hw272_1)).trans hw272_1), ((HB.out.cell (World.block_lt_of_cell? w _ hw272_2)).trans hw272_2)⟩ (fun hHeld => ?_)
                      clear hK K
                      refine norm_ (a' := ?_) ?_ ?_
                      rotate_left
                      · show Act.put _ (some 11) _ = _
                        simp only [Act.put, List.setIfInBounds_toArray, List.set_cons_zero, List.set_cons_succ, i64_w, i32_w]
                        rfl
                      exact norm_ (by simp only [putAll, Act.put, List.setIfInBounds_toArray, List.set_cons_zero, List.set_cons_succ]) (hCont (gb278) _ ⟨hHeld, (by (with_reducible repeat (first | refine blk_drewN ?_ _ | refine blk_drew ?_ | refine blk_alloc ?_ _)); exact BK265.out), (by (with_reducible repeat (first | refine blk_drewN ?_ _ | refine blk_drew ?_ | refine blk_alloc ?_ _)); exact BK271.out), (by (with_reducible repeat (first | refine blk_drewN ?_ _ | refine blk_drew ?_ | refine blk_alloc ?_ _)); exact BK278.out), GW278.out, GE278.out, NB265_278.out, NB278_265.out, NB271_278.out, NB278_271.out, (by repeat (first | (with_reducible first | exact HB.out | apply below_alloc | apply pw_below_drewN | apply below_drew1 | refine below_set ?_ GE265.out | refine below_set ?_ GE271.out | refine below_set ?_ GE278.out) | exact HB.out))⟩)
                    · skip
                      refine box_step ?hg (N := 11) ?hd (cs := #[.int .i64 0, .int .i64 0, .int .i64 0, .bool false]) (t := 25) ?hr ?_; (case hd => rfl); (case hg => rfl); (case hr => first | (go_simp; done) | (go_simp; rfl))
                      intro gb278 hg w23 hbox hb
                      have n0_ := Aside0.mk (blk_below (g := gb265) (o := .cells #[.string a0_0, .int .i64 a0_1, .int .i64 a0_2, .int .i64 a0_3, .int .i64 a0_4, .int .i64 a0_5, .int .i64 a0_6, .int .i64 a0_7] 23 (0, 0)) (by (with_reducible repeat (first | refine blk_drewN ?_ _ | refine blk_drew ?_ | refine blk_alloc ?_ _)); exact BK265.out) hb)
                      have n1_ := Aside0.mk (blk_below (g := gb271) (o := .cells #[.int .i64 x272000_2, .int .i64 x272001_2, .int .i64 x272002_2, .bool x272003_2] 25 (0, 0)) (by (with_reducible repeat (first | refine blk_drewN ?_ _ | refine blk_drew ?_ | refine blk_alloc ?_ _)); exact BK271.out) hb)
                      have n2_ := Aside0.mk (below_step (by repeat (first | (with_reducible first | exact HB.out | apply below_alloc | apply pw_below_drewN | apply below_drew1 | refine below_set ?_ GE265.out | refine below_set ?_ GE271.out) | exact HB.out)) hb)
                      have n3_ := Aside0.mk (hbox)
                      have n4_ := Aside0.mk ((by rw [hg]; exact (below_size (by repeat (first | (with_reducible first | exact HB.out | apply below_alloc | apply pw_below_drewN | apply below_drew1 | refine below_set ?_ GE265.out | refine below_set ?_ GE271.out) | exact HB.out))) : w.heap.size ≤ gb278))
                      have n5_ := Aside0.mk ((by rw [hg]; exact (below_size (by repeat (first | (with_reducible first | exact HB.out | apply below_alloc | apply pw_below_drewN | apply below_drew1 | refine below_set ?_ GE265.out | refine below_set ?_ GE271.out) | exact HB.out))) : w.heap.size ≤ gb278))
                      have n6_ := Aside0.mk ((by rw [hg]; exact Nat.ne_of_lt (blk_lt (g := gb265) (o := .cells #[.string a0_0, .int .i64 a0_1, .int .i64 a0_2, .int .i64 a0_3, .int .i64 a0_4, .int .i64 a0_5, .int .i64 a0_6, .int .i64 a0_7] 23 (0, 0)) (by (with_reducible repeat (first | refine blk_drewN ?_ _ | refine blk_drew ?_ | refine blk_alloc ?_ _)); exact BK265.out)) : gb265 ≠ gb278))
                      have n7_ := Aside0.mk ((by rw [hg]; exact Nat.ne_of_gt (blk_lt (g := gb265) (o := .cells #[.string a0_0, .int .i64 a0_1, .int .i64 a0_2, .int .i64 a0_3, .int .i64 a0_4, .int .i64 a0_5, .int .i64 a0_6, .int .i64 a0_7] 23 (0, 0)) (by (with_reducible repeat (first | refine blk_drewN ?_ _ | refine blk_drew ?_ | refine blk_alloc ?_ _)); exact BK265.out)) : gb278 ≠ gb265))
                      have n8_ := Aside0.mk ((by rw [hg]; exact Nat.ne_of_lt (blk_lt (g := gb271) (o := .cells #[.int .i64 x272000_2, .int .i64 x272001_2, .int .i64 x272002_2, .bool x272003_2] 25 (0, 0)) (by (with_reducible repeat (first | refine blk_drewN ?_ _ | refine blk_drew ?_ | refine blk_alloc ?_ _)); exact BK271.out)) : gb271 ≠ gb278))
                      have n9_ := Aside0.mk ((by rw [hg]; exact Nat.ne_of_gt (blk_lt (g := gb271) (o := .cells #[.int .i64 x272000_2, .int .i64 x272001_2, .int .i64 x272002_2, .bool x272003_2] 25 (0, 0)) (by (with_reducible repeat (first | refine blk_drewN ?_ _ | refine blk_drew ?_ | refine blk_alloc ?_ _)); exact BK271.out)) : gb278 ≠ gb271))
                      clear BK265
                      clear BK271
                      clear HB
                      have BK265 := n0_
                      have BK271 := n1_
                      have HB := n2_
                      have BK278 := n3_
                      have GW278 := n4_
                      have GE278 := n5_
                      have NB265_278 := n6_
                      have NB278_265 := n7_
                      have NB271_278 := n8_
                      have NB278_271 := n9_
                      clear n0_ n1_ n2_ n3_ n4_ n5_ n6_ n7_ n8_ n9_
                      clear hb hbox hg
                      refine hK.out _ _ ⟨(blk_cell BK265.out 0).trans rfl, (blk_cell BK265.out 1).trans rfl, (blk_cell BK265.out 2).trans rfl, (blk_cell BK265.out 3).trans rfl, (blk_cell BK265.out 4).trans rfl, (blk_cell BK265.out 5).trans rfl, (blk_cell BK265.out 6).trans rfl, (blk_cell BK265.out 7).trans rfl, (blk_cell BK271.out 0).trans rfl, (blk_cell BK271.out 1).trans rfl, (blk_cell BK271.out 2).trans rfl, (blk_cell BK271.out 3).trans rfl, ((HB.out.cell (World.block_lt_of_cell? w _ hw272_0)).trans hw272_0), ((HB.out.cell (World.block_lt_of_cell? w _ hw272_1)).trans hw272_1), ((HB.out.cell (World.block_lt_of_cell? w _ hw272_2)).trans hw272_2)⟩ (fun hHeld => ?_)
                      clear hK K
                      refine norm_ (a' := ?_) ?_ ?_
                      rotate_left
                      · show Act.put _ (some 11) _ = _
                        simp only [Act.put, List.setIfInBounds_toArray, List.set_cons_zero, List.set_cons_succ, i64_w, i32_w]
                        rfl
                      refine one_ (i := 6) (N := some 39) #[true, true, true, true, true, true, true, false, false, false, true, false, false] rfl rfl (one_of HT_.out (by kernel_rfl)) (by decide) (fun K hK => ?_)
                      refine goes_ Tryd.func11 (by kernel_rfl) rfl #[.agg #[.string a0_0, .int .i64 a0_1, .int .i64 a0_2, .int .i64 a0_3, .int .i64 a0_4, .int .i64 a0_5, .int .i64 a0_6, .int .i64 a0_7], .agg #[.int .i64 x272000_2, .int .i64 x272001_2, .int .i64 x272002_2, .bool x272003_2], .agg #[.int .i64 ((rd_T27 l1 x10_2).f0), .int .i64 ((rd_T27 l1 x10_2).f1), .int .i64 ((rd_T27 l1 x10_2).f2)]] (by rfl) rfl rfl (by (try simp only [List.map_toArray, List.map_cons, List.map_nil]); first | done | rfl | (simp only [List.length_drop, List.length_take]; rfl)) ?_
                      with_reducible refine (charger_Step.calls a0_0 a0_1 a0_2 a0_3 a0_4 a0_5 a0_6 a0_7 x272000_2 x272001_2 x272002_2 x272003_2 ((rd_T27 l1 x10_2).f0) ((rd_T27 l1 x10_2).f1) ((rd_T27 l1 x10_2).f2) t273 t274 t275 t276 t277 _ (hG.below (by repeat (first | (with_reducible first | exact HB.out | apply below_alloc | apply pw_below_drewN | apply below_drew1) | exact HB.out | (refine Below.setCell ?_ (Aside0.out (by assumption)) _)))) A19.out).mono ?_
                      rintro e w24 ⟨rfl, hb⟩
                      refine ⟨_, rfl, ?_⟩
                      have n0_ := Aside0.mk (blk_below (g := gb265) (o := .cells #[.string a0_0, .int .i64 a0_1, .int .i64 a0_2, .int .i64 a0_3, .int .i64 a0_4, .int .i64 a0_5, .int .i64 a0_6, .int .i64 a0_7] 23 (0, 0)) (by (with_reducible repeat (first | refine blk_drewN ?_ _ | refine blk_drew ?_ | refine blk_alloc ?_ _)); exact BK265.out) hb)
                      have n1_ := Aside0.mk (blk_below (g := gb271) (o := .cells #[.int .i64 x272000_2, .int .i64 x272001_2, .int .i64 x272002_2, .bool x272003_2] 25 (0, 0)) (by (with_reducible repeat (first | refine blk_drewN ?_ _ | refine blk_drew ?_ | refine blk_alloc ?_ _)); exact BK271.out) hb)
                      have n2_ := Aside0.mk (blk_below (g := gb278) (o := .cells #[.int .i64 0, .int .i64 0, .int .i64 0, .bool false] 25 (0, 0)) (by (with_reducible repeat (first | refine blk_drewN ?_ _ | refine blk_drew ?_ | refine blk_alloc ?_ _)); exact BK278.out) hb)
                      have n3_ := Aside0.mk (below_step (by repeat (first | (with_reducible first | exact HB.out | apply below_alloc | apply pw_below_drewN | apply below_drew1 | refine below_set ?_ GE265.out | refine below_set ?_ GE271.out | refine below_set ?_ GE278.out) | exact HB.out)) hb)
                      clear BK265
                      clear BK271
                      clear BK278
                      clear HB
                      have BK265 := n0_
                      have BK271 := n1_
                      have BK278 := n2_
                      have HB := n3_
                      clear n0_ n1_ n2_ n3_
                      (try clear hb)
                      (try clear hb2)
                      (try clear hk)
                      (try clear hi)
                      refine hK.out _ _ ⟨(blk_cell BK265.out 0).trans rfl, (blk_cell BK265.out 1).trans rfl, (blk_cell BK265.out 2).trans rfl, (blk_cell BK265.out 3).trans rfl, (blk_cell BK265.out 4).trans rfl, (blk_cell BK265.out 5).trans rfl, (blk_cell BK265.out 6).trans rfl, (blk_cell BK265.out 7).trans rfl, (blk_cell BK271.out 0).trans rfl, (blk_cell BK271.out 1).trans rfl, (blk_cell BK271.out 2).trans rfl, (blk_cell BK271.out 3).trans rfl, ((HB.out.cell (World.block_lt_of_cell? w _ hw272_0)).trans hw272_0), ((HB.out.cell (World.block_lt_of_cell? w _ hw272_1)).trans hw272_1), ((HB.out.cell (World.block_lt_of_cell? w _ hw272_2)).trans hw272_2)⟩ (fun hHeld => ?_)
                      clear hK K
                      refine norm_ (a' := ?_) ?_ ?_
                      rotate_left
                      · show Act.put _ (some 39) _ = _
                        simp only [Act.put, List.setIfInBounds_toArray, List.set_cons_zero, List.set_cons_succ, i64_w, i32_w]
                        rfl
                      refine pure_ (i := 7) (N := some 32) (v := ?_) (a' := ?_) #[true, true, true, true, true, true, true, true, false, false, true, false, false] rfl rfl (any_of HT_.out (by kernel_rfl)) (fun _ _ _ h => h) (Or.inl ⟨by rfl, ?_⟩) ?_ ?_
                      rotate_left
                      · intro w'
                        go_simp
                        with_reducible rfl
                      rotate_left
                      · simp only [Act.put, List.setIfInBounds_toArray, List.set_cons_zero, List.set_cons_succ, i64_w, i32_w]
                        rfl
                      refine pure_ (i := 8) (N := some 40) (v := ?_) (a' := ?_) #[true, true, true, true, true, true, true, true, true, false, true, false, false] rfl rfl (any_of HT_.out (by kernel_rfl)) (fun _ _ _ h => h) (Or.inl ⟨by rfl, ?_⟩) ?_ ?_
                      rotate_left
                      · intro w'
                        go_simp
                        with_reducible rfl
                      rotate_left
                      · simp only [Act.put, List.setIfInBounds_toArray, List.set_cons_zero, List.set_cons_succ, i64_w, i32_w]
                        rfl
                      refine pure_ (i := 9) (N := some 41) (v := ?_) (a' := ?_) #[true, true, true, true, true, true, true, true, true, true, true, false, false] rfl rfl (any_of HT_.out (by kernel_rfl)) (fun _ _ _ h => h) (Or.inl ⟨by rfl, ?_⟩) ?_ ?_
                      rotate_left
                      · intro w'
                        go_simp
                        with_reducible rfl
                      rotate_left
                      · simp only [Act.put, List.setIfInBounds_toArray, List.set_cons_zero, List.set_cons_succ, i64_w, i32_w]
                        rfl
                      exact norm_ (by simp only [putAll, Act.put, List.setIfInBounds_toArray, List.set_cons_zero, List.set_cons_succ]) (hCont (gb278) _ ⟨hHeld, (by (with_reducible repeat (first | refine blk_drewN ?_ _ | refine blk_drew ?_ | refine blk_alloc ?_ _)); exact BK265.out), (by (with_reducible repeat (first | refine blk_drewN ?_ _ | refine blk_drew ?_ | refine blk_alloc ?_ _)); exact BK271.out), (by (with_reducible repeat (first | refine blk_drewN ?_ _ | refine blk_drew ?_ | refine blk_alloc ?_ _)); exact BK278.out), GW278.out, GE278.out, NB265_278.out, NB278_265.out, NB271_278.out, NB278_271.out, (by repeat (first | (with_reducible first | exact HB.out | apply below_alloc | apply pw_below_drewN | apply below_drew1 | refine below_set ?_ GE265.out | refine below_set ?_ GE271.out | refine below_set ?_ GE278.out) | exact HB.out))⟩)
                  rintro gb278 w25 ⟨hS_, h0_, h1_, h2_, h3_, h4_, h5_, h6_, h7_, h8_, h9_⟩
                  have n0_ : Aside0 (w25.heap[gb265]? = some (.cells #[.string a0_0, .int .i64 a0_1, .int .i64 a0_2, .int .i64 a0_3, .int .i64 a0_4, .int .i64 a0_5, .int .i64 a0_6, .int .i64 a0_7] 23 (0, 0))) := ⟨h0_⟩
                  have n1_ : Aside0 (w25.heap[gb271]? = some (.cells #[.int .i64 x272000_2, .int .i64 x272001_2, .int .i64 x272002_2, .bool x272003_2] 25 (0, 0))) := ⟨h1_⟩
                  have n2_ : Aside0 (w25.heap[gb278]? = some (.cells #[.int .i64 0, .int .i64 0, .int .i64 0, .bool false] 25 (0, 0))) := ⟨h2_⟩
                  have n3_ : Aside0 (w.heap.size ≤ gb278) := ⟨h3_⟩
                  have n4_ : Aside0 (w.heap.size ≤ gb278) := ⟨h4_⟩
                  have n5_ : Aside0 (gb265 ≠ gb278) := ⟨h5_⟩
                  have n6_ : Aside0 (gb278 ≠ gb265) := ⟨h6_⟩
                  have n7_ : Aside0 (gb271 ≠ gb278) := ⟨h7_⟩
                  have n8_ : Aside0 (gb278 ≠ gb271) := ⟨h8_⟩
                  have n9_ : Aside0 (Below w.heap.size w w25) := ⟨h9_⟩
                  clear BK265
                  clear BK271
                  clear HB
                  clear h0_ h1_ h2_ h3_ h4_ h5_ h6_ h7_ h8_ h9_
                  have BK265 := n0_
                  have BK271 := n1_
                  have BK278 := n2_
                  have GW278 := n3_
                  have GE278 := n4_
                  have NB265_278 := n5_
                  have NB278_265 := n6_
                  have NB271_278 := n7_
                  have NB278_271 := n8_
                  have HB := n9_
                  clear n0_ n1_ n2_ n3_ n4_ n5_ n6_ n7_ n8_ n9_
                  have hHeld : w25.cell? ⟨gb265, 0, none⟩ = some (.string a0_0) ∧ w25.cell? ⟨gb265, 1, none⟩ = some (.int .i64 a0_1) ∧ w25.cell? ⟨gb265, 2, none⟩ = some (.int .i64 a0_2) ∧ w25.cell? ⟨gb265, 3, none⟩ = some (.int .i64 a0_3) ∧ w25.cell? ⟨gb265, 4, none⟩ = some (.int .i64 a0_4) ∧ w25.cell? ⟨gb265, 5, none⟩ = some (.int .i64 a0_5) ∧ w25.cell? ⟨gb265, 6, none⟩ = some (.int .i64 a0_6) ∧ w25.cell? ⟨gb265, 7, none⟩ = some (.int .i64 a0_7) ∧ w25.cell? ⟨gb271, 0, none⟩ = some (.int .i64 x272000_2) ∧ w25.cell? ⟨gb271, 1, none⟩ = some (.int .i64 x272001_2) ∧ w25.cell? ⟨gb271, 2, none⟩ = some (.int .i64 x272002_2) ∧ w25.cell? ⟨gb271, 3, none⟩ = some (.bool x272003_2) ∧ w25.cell? (ad272.add ((x10_2).toNat * 3)) = some (.int .i64 ((rd_T27 l1 x10_2).f0)) ∧ w25.cell? ⟨(ad272.add ((x10_2).toNat * 3)).block, (ad272.add ((x10_2).toNat * 3)).off + 1, none⟩ = some (.int .i64 ((rd_T27 l1 x10_2).f1)) ∧ w25.cell? ⟨(ad272.add ((x10_2).toNat * 3)).block, (ad272.add ((x10_2).toNat * 3)).off + 2, none⟩ = some (.int .i64 ((rd_T27 l1 x10_2).f2)) := hS_
                  refine norm_ (a' := ?_) ?_ ?_
                  rotate_left
                  · simp only [putAll, Act.put, List.setIfInBounds_toArray, List.set_cons_zero, List.set_cons_succ]
                    rfl
                  refine one_ (i := 11) (N := none) #[true, true, true, true, true, true, true, true, true, true, true, true, false] rfl rfl (one_of HT_.out (by kernel_rfl)) (by decide) (fun K hK => ?_)
                  have hs26 : w25.cell? ⟨gb278, 0, none⟩ = some (.int .i64 0) := (blk_cell BK278.out 0).trans rfl
                  have hfs26 := blk_frozen BK278.out 0
                  have hns26_0 := NB265_278.out
                  have hns26_1 := NB271_278.out
                  have hms26_0 := NB278_265.out
                  have hms26_1 := NB278_271.out
                  have hs27 : w25.cell? ⟨gb278, 1, none⟩ = some (.int .i64 0) := (blk_cell BK278.out 1).trans rfl
                  have hfs27 := blk_frozen BK278.out 1
                  have hns27_0 := NB265_278.out
                  have hns27_1 := NB271_278.out
                  have hms27_0 := NB278_265.out
                  have hms27_1 := NB278_271.out
                  have hs28 : w25.cell? ⟨gb278, 2, none⟩ = some (.int .i64 0) := (blk_cell BK278.out 2).trans rfl
                  have hfs28 := blk_frozen BK278.out 2
                  have hns28_0 := NB265_278.out
                  have hns28_1 := NB271_278.out
                  have hms28_0 := NB278_265.out
                  have hms28_1 := NB278_271.out
                  have hs29 : w25.cell? ⟨gb278, 3, none⟩ = some (.bool false) := (blk_cell BK278.out 3).trans rfl
                  have hfs29 := blk_frozen BK278.out 3
                  have hns29_0 := NB265_278.out
                  have hns29_1 := NB271_278.out
                  have hms29_0 := NB278_265.out
                  have hms29_1 := NB278_271.out
                  refine skip_ (w1 := ?_) (by rfl) rfl ?_ ?_
                  rotate_left
                  · go_simp
                    rfl
                  refine hK.out _ _ ⟨((cell_far (p := ⟨gb278, _, none⟩) NB265_278.out _).trans (((cell_far (p := ⟨gb278, _, none⟩) NB265_278.out _).trans (((cell_far (p := ⟨gb278, _, none⟩) NB265_278.out _).trans (((cell_far (p := ⟨gb278, _, none⟩) NB265_278.out _).trans (hHeld.1)))))))), ((cell_far (p := ⟨gb278, _, none⟩) NB265_278.out _).trans (((cell_far (p := ⟨gb278, _, none⟩) NB265_278.out _).trans (((cell_far (p := ⟨gb278, _, none⟩) NB265_278.out _).trans (((cell_far (p := ⟨gb278, _, none⟩) NB265_278.out _).trans (hHeld.2.1)))))))), ((cell_far (p := ⟨gb278, _, none⟩) NB265_278.out _).trans (((cell_far (p := ⟨gb278, _, none⟩) NB265_278.out _).trans (((cell_far (p := ⟨gb278, _, none⟩) NB265_278.out _).trans (((cell_far (p := ⟨gb278, _, none⟩) NB265_278.out _).trans (hHeld.2.2.1)))))))), ((cell_far (p := ⟨gb278, _, none⟩) NB265_278.out _).trans (((cell_far (p := ⟨gb278, _, none⟩) NB265_278.out _).trans (((cell_far (p := ⟨gb278, _, none⟩) NB265_278.out _).trans (((cell_far (p := ⟨gb278, _, none⟩) NB265_278.out _).trans (hHeld.2.2.2.1)))))))), ((cell_far (p := ⟨gb278, _, none⟩) NB265_278.out _).trans (((cell_far (p := ⟨gb278, _, none⟩) NB265_278.out _).trans (((cell_far (p := ⟨gb278, _, none⟩) NB265_278.out _).trans (((cell_far (p := ⟨gb278, _, none⟩) NB265_278.out _).trans (hHeld.2.2.2.2.1)))))))), ((cell_far (p := ⟨gb278, _, none⟩) NB265_278.out _).trans (((cell_far (p := ⟨gb278, _, none⟩) NB265_278.out _).trans (((cell_far (p := ⟨gb278, _, none⟩) NB265_278.out _).trans (((cell_far (p := ⟨gb278, _, none⟩) NB265_278.out _).trans (hHeld.2.2.2.2.2.1)))))))), ((cell_far (p := ⟨gb278, _, none⟩) NB265_278.out _).trans (((cell_far (p := ⟨gb278, _, none⟩) NB265_278.out _).trans (((cell_far (p := ⟨gb278, _, none⟩) NB265_278.out _).trans (((cell_far (p := ⟨gb278, _, none⟩) NB265_278.out _).trans (hHeld.2.2.2.2.2.2.1)))))))), ((cell_far (p := ⟨gb278, _, none⟩) NB265_278.out _).trans (((cell_far (p := ⟨gb278, _, none⟩) NB265_278.out _).trans (((cell_far (p := ⟨gb278, _, none⟩) NB265_278.out _).trans (((cell_far (p := ⟨gb278, _, none⟩) NB265_278.out _).trans (hHeld.2.2.2.2.2.2.2.1)))))))), ((cell_far (p := ⟨gb278, _, none⟩) NB271_278.out _).trans (((cell_far (p := ⟨gb278, _, none⟩) NB271_278.out _).trans (((cell_far (p := ⟨gb278, _, none⟩) NB271_278.out _).trans (((cell_far (p := ⟨gb278, _, none⟩) NB271_278.out _).trans (hHeld.2.2.2.2.2.2.2.2.1)))))))), ((cell_far (p := ⟨gb278, _, none⟩) NB271_278.out _).trans (((cell_far (p := ⟨gb278, _, none⟩) NB271_278.out _).trans (((cell_far (p := ⟨gb278, _, none⟩) NB271_278.out _).trans (((cell_far (p := ⟨gb278, _, none⟩) NB271_278.out _).trans (hHeld.2.2.2.2.2.2.2.2.2.1)))))))), ((cell_far (p := ⟨gb278, _, none⟩) NB271_278.out _).trans (((cell_far (p := ⟨gb278, _, none⟩) NB271_278.out _).trans (((cell_far (p := ⟨gb278, _, none⟩) NB271_278.out _).trans (((cell_far (p := ⟨gb278, _, none⟩) NB271_278.out _).trans (hHeld.2.2.2.2.2.2.2.2.2.2.1)))))))), ((cell_far (p := ⟨gb278, _, none⟩) NB271_278.out _).trans (((cell_far (p := ⟨gb278, _, none⟩) NB271_278.out _).trans (((cell_far (p := ⟨gb278, _, none⟩) NB271_278.out _).trans (((cell_far (p := ⟨gb278, _, none⟩) NB271_278.out _).trans (hHeld.2.2.2.2.2.2.2.2.2.2.2.1)))))))), ((cell_far (p := ⟨gb278, _, none⟩) (by first | exact Nat.ne_of_lt (Nat.lt_of_lt_of_le (by have := World.block_lt_of_cell? _ _ hw272_0; first | rwa [add_block] at this | exact this) GW278.out) | (rw [add_block]; exact Nat.ne_of_lt (Nat.lt_of_lt_of_le (by have := World.block_lt_of_cell? _ _ hw272_0; first | rwa [add_block] at this | exact this) GW278.out)) | (show (Addr.add _ _).block ≠ _; rw [add_block]; exact Nat.ne_of_lt (Nat.lt_of_lt_of_le (by have := World.block_lt_of_cell? _ _ hw272_0; first | rwa [add_block] at this | exact this) GW278.out)) | (dsimp only; exact Nat.ne_of_lt (Nat.lt_of_lt_of_le (by have := World.block_lt_of_cell? _ _ hw272_0; first | rwa [add_block] at this | exact this) GW278.out))) _).trans (((cell_far (p := ⟨gb278, _, none⟩) (by first | exact Nat.ne_of_lt (Nat.lt_of_lt_of_le (by have := World.block_lt_of_cell? _ _ hw272_0; first | rwa [add_block] at this | exact this) GW278.out) | (rw [add_block]; exact Nat.ne_of_lt (Nat.lt_of_lt_of_le (by have := World.block_lt_of_cell? _ _ hw272_0; first | rwa [add_block] at this | exact this) GW278.out)) | (show (Addr.add _ _).block ≠ _; rw [add_block]; exact Nat.ne_of_lt (Nat.lt_of_lt_of_le (by have := World.block_lt_of_cell? _ _ hw272_0; first | rwa [add_block] at this | exact this) GW278.out)) | (dsimp only; exact Nat.ne_of_lt (Nat.lt_of_lt_of_le (by have := World.block_lt_of_cell? _ _ hw272_0; first | rwa [add_block] at this | exact this) GW278.out))) _).trans (((cell_far (p := ⟨gb278, _, none⟩) (by first | exact Nat.ne_of_lt (Nat.lt_of_lt_of_le (by have := World.block_lt_of_cell? _ _ hw272_0; first | rwa [add_block] at this | exact this) GW278.out) | (rw [add_block]; exact Nat.ne_of_lt (Nat.lt_of_lt_of_le (by have := World.block_lt_of_cell? _ _ hw272_0; first | rwa [add_block] at this | exact this) GW278.out)) | (show (Addr.add _ _).block ≠ _; rw [add_block]; exact Nat.ne_of_lt (Nat.lt_of_lt_of_le (by have := World.block_lt_of_cell? _ _ hw272_0; first | rwa [add_block] at this | exact this) GW278.out)) | (dsimp only; exact Nat.ne_of_lt (Nat.lt_of_lt_of_le (by have := World.block_lt_of_cell? _ _ hw272_0; first | rwa [add_block] at this | exact this) GW278.out))) _).trans (((cell_far (p := ⟨gb278, _, none⟩) (by first | exact Nat.ne_of_lt (Nat.lt_of_lt_of_le (by have := World.block_lt_of_cell? _ _ hw272_0; first | rwa [add_block] at this | exact this) GW278.out) | (rw [add_block]; exact Nat.ne_of_lt (Nat.lt_of_lt_of_le (by have := World.block_lt_of_cell? _ _ hw272_0; first | rwa [add_block] at this | exact this) GW278.out)) | (show (Addr.add _ _).block ≠ _; rw [add_block]; exact Nat.ne_of_lt (Nat.lt_of_lt_of_le (by have := World.block_lt_of_cell? _ _ hw272_0; first | rwa [add_block] at this | exact this) GW278.out)) | (dsimp only; exact Nat.ne_of_lt (Nat.lt_of_lt_of_le (by have := World.block_lt_of_cell? _ _ hw272_0; first | rwa [add_block] at this | exact this) GW278.out))) _).trans (hHeld.2.2.2.2.2.2.2.2.2.2.2.2.1)))))))), ((cell_far (p := ⟨gb278, _, none⟩) (by first | exact Nat.ne_of_lt (Nat.lt_of_lt_of_le (by have := World.block_lt_of_cell? _ _ hw272_1; first | rwa [add_block] at this | exact this) GW278.out) | (rw [add_block]; exact Nat.ne_of_lt (Nat.lt_of_lt_of_le (by have := World.block_lt_of_cell? _ _ hw272_1; first | rwa [add_block] at this | exact this) GW278.out)) | (show (Addr.add _ _).block ≠ _; rw [add_block]; exact Nat.ne_of_lt (Nat.lt_of_lt_of_le (by have := World.block_lt_of_cell? _ _ hw272_1; first | rwa [add_block] at this | exact this) GW278.out)) | (dsimp only; exact Nat.ne_of_lt (Nat.lt_of_lt_of_le (by have := World.block_lt_of_cell? _ _ hw272_1; first | rwa [add_block] at this | exact this) GW278.out))) _).trans (((cell_far (p := ⟨gb278, _, none⟩) (by first | exact Nat.ne_of_lt (Nat.lt_of_lt_of_le (by have := World.block_lt_of_cell? _ _ hw272_1; first | rwa [add_block] at this | exact this) GW278.out) | (rw [add_block]; exact Nat.ne_of_lt (Nat.lt_of_lt_of_le (by have := World.block_lt_of_cell? _ _ hw272_1; first | rwa [add_block] at this | exact this) GW278.out)) | (show (Addr.add _ _).block ≠ _; rw [add_block]; exact Nat.ne_of_lt (Nat.lt_of_lt_of_le (by have := World.block_lt_of_cell? _ _ hw272_1; first | rwa [add_block] at this | exact this) GW278.out)) | (dsimp only; exact Nat.ne_of_lt (Nat.lt_of_lt_of_le (by have := World.block_lt_of_cell? _ _ hw272_1; first | rwa [add_block] at this | exact this) GW278.out))) _).trans (((cell_far (p := ⟨gb278, _, none⟩) (by first | exact Nat.ne_of_lt (Nat.lt_of_lt_of_le (by have := World.block_lt_of_cell? _ _ hw272_1; first | rwa [add_block] at this | exact this) GW278.out) | (rw [add_block]; exact Nat.ne_of_lt (Nat.lt_of_lt_of_le (by have := World.block_lt_of_cell? _ _ hw272_1; first | rwa [add_block] at this | exact this) GW278.out)) | (show (Addr.add _ _).block ≠ _; rw [add_block]; exact Nat.ne_of_lt (Nat.lt_of_lt_of_le (by have := World.block_lt_of_cell? _ _ hw272_1; first | rwa [add_block] at this | exact this) GW278.out)) | (dsimp only; exact Nat.ne_of_lt (Nat.lt_of_lt_of_le (by have := World.block_lt_of_cell? _ _ hw272_1; first | rwa [add_block] at this | exact this) GW278.out))) _).trans (((cell_far (p := ⟨gb278, _, none⟩) (by first | exact Nat.ne_of_lt (Nat.lt_of_lt_of_le (by have := World.block_lt_of_cell? _ _ hw272_1; first | rwa [add_block] at this | exact this) GW278.out) | (rw [add_block]; exact Nat.ne_of_lt (Nat.lt_of_lt_of_le (by have := World.block_lt_of_cell? _ _ hw272_1; first | rwa [add_block] at this | exact this) GW278.out)) | (show (Addr.add _ _).block ≠ _; rw [add_block]; exact Nat.ne_of_lt (Nat.lt_of_lt_of_le (by have := World.block_lt_of_cell? _ _ hw272_1; first | rwa [add_block] at this | exact this) GW278.out)) | (dsimp only; exact Nat.ne_of_lt (Nat.lt_of_lt_of_le (by have := World.block_lt_of_cell? _ _ hw272_1; first | rwa [add_block] at this | exact this) GW278.out))) _).trans (hHeld.2.2.2.2.2.2.2.2.2.2.2.2.2.1)))))))), ((cell_far (p := ⟨gb278, _, none⟩) (by first | exact Nat.ne_of_lt (Nat.lt_of_lt_of_le (by have := World.block_lt_of_cell? _ _ hw272_2; first | rwa [add_block] at this | exact this) GW278.out) | (rw [add_block]; exact Nat.ne_of_lt (Nat.lt_of_lt_of_le (by have := World.block_lt_of_cell? _ _ hw272_2; first | rwa [add_block] at this | exact this) GW278.out)) | (show (Addr.add _ _).block ≠ _; rw [add_block]; exact Nat.ne_of_lt (Nat.lt_of_lt_of_le (by have := World.block_lt_of_cell? _ _ hw272_2; first | rwa [add_block] at this | exact this) GW278.out)) | (dsimp only; exact Nat.ne_of_lt (Nat.lt_of_lt_of_le (by have := World.block_lt_of_cell? _ _ hw272_2; first | rwa [add_block] at this | exact this) GW278.out))) _).trans (((cell_far (p := ⟨gb278, _, none⟩) (by first | exact Nat.ne_of_lt (Nat.lt_of_lt_of_le (by have := World.block_lt_of_cell? _ _ hw272_2; first | rwa [add_block] at this | exact this) GW278.out) | (rw [add_block]; exact Nat.ne_of_lt (Nat.lt_of_lt_of_le (by have := World.block_lt_of_cell? _ _ hw272_2; first | rwa [add_block] at this | exact this) GW278.out)) | (show (Addr.add _ _).block ≠ _; rw [add_block]; exact Nat.ne_of_lt (Nat.lt_of_lt_of_le (by have := World.block_lt_of_cell? _ _ hw272_2; first | rwa [add_block] at this | exact this) GW278.out)) | (dsimp only; exact Nat.ne_of_lt (Nat.lt_of_lt_of_le (by have := World.block_lt_of_cell? _ _ hw272_2; first | rwa [add_block] at this | exact this) GW278.out))) _).trans (((cell_far (p := ⟨gb278, _, none⟩) (by first | exact Nat.ne_of_lt (Nat.lt_of_lt_of_le (by have := World.block_lt_of_cell? _ _ hw272_2; first | rwa [add_block] at this | exact this) GW278.out) | (rw [add_block]; exact Nat.ne_of_lt (Nat.lt_of_lt_of_le (by have := World.block_lt_of_cell? _ _ hw272_2; first | rwa [add_block] at this | exact this) GW278.out)) | (show (Addr.add _ _).block ≠ _; rw [add_block]; exact Nat.ne_of_lt (Nat.lt_of_lt_of_le (by have := World.block_lt_of_cell? _ _ hw272_2; first | rwa [add_block] at this | exact this) GW278.out)) | (dsimp only; exact Nat.ne_of_lt (Nat.lt_of_lt_of_le (by have := World.block_lt_of_cell? _ _ hw272_2; first | rwa [add_block] at this | exact this) GW278.out))) _).trans (((cell_far (p := ⟨gb278, _, none⟩) (by first | exact Nat.ne_of_lt (Nat.lt_of_lt_of_le (by have := World.block_lt_of_cell? _ _ hw272_2; first | rwa [add_block] at this | exact this) GW278.out) | (rw [add_block]; exact Nat.ne_of_lt (Nat.lt_of_lt_of_le (by have := World.block_lt_of_cell? _ _ hw272_2; first | rwa [add_block] at this | exact this) GW278.out)) | (show (Addr.add _ _).block ≠ _; rw [add_block]; exact Nat.ne_of_lt (Nat.lt_of_lt_of_le (by have := World.block_lt_of_cell? _ _ hw272_2; first | rwa [add_block] at this | exact this) GW278.out)) | (dsimp only; exact Nat.ne_of_lt (Nat.lt_of_lt_of_le (by have := World.block_lt_of_cell? _ _ hw272_2; first | rwa [add_block] at this | exact this) GW278.out))) _).trans (hHeld.2.2.2.2.2.2.2.2.2.2.2.2.2.2))))))))⟩ (fun hHeld => ?_)
                  clear hK K
                  refine pure_ (i := 12) (N := some 12) (v := ?_) (a' := ?_) #[true, true, true, true, true, true, true, true, true, true, true, true, true] rfl rfl (any_of HT_.out (by kernel_rfl)) (fun _ _ _ h => h) (Or.inl ⟨by rfl, ?_⟩) ?_ ?_
                  rotate_left
                  · intro w'
                    go_simp
                    with_reducible rfl
                  rotate_left
                  · simp only [Act.put, List.setIfInBounds_toArray, List.set_cons_zero, List.set_cons_succ, i64_w, i32_w]
                    rfl
                  refine done_ (done_of HT_.out (by kernel_rfl)) ?_
                  have hnb30 := NB278_265.out
                  have hnc30 := NB265_278.out
                  have hnb31 := NB278_271.out
                  have hnc31 := NB271_278.out
                  have hcz32_0 : w25.cell? ⟨gb278, 0, none⟩ = some (.int .i64 0) := (blk_cell BK278.out 0).trans rfl
                  have hcz32_1 : w25.cell? ⟨gb278, 1, none⟩ = some (.int .i64 0) := (blk_cell BK278.out 1).trans rfl
                  have hcz32_2 : w25.cell? ⟨gb278, 2, none⟩ = some (.int .i64 0) := (blk_cell BK278.out 2).trans rfl
                  have hcz32_3 : w25.cell? ⟨gb278, 3, none⟩ = some (.bool false) := (blk_cell BK278.out 3).trans rfl
                  have hfz32_0 := blk_frozen BK278.out 0
                  have hfz32_1 := blk_frozen BK278.out 1
                  have hfz32_2 := blk_frozen BK278.out 2
                  have hfz32_3 := blk_frozen BK278.out 3
                  have hnb33 := NB271_265.out
                  have hnc33 := NB265_271.out
                  have hcz34_0 : w25.cell? ⟨gb271, 0, none⟩ = some (.int .i64 x272000_2) := (blk_cell BK271.out 0).trans rfl
                  have hcz34_1 : w25.cell? ⟨gb271, 1, none⟩ = some (.int .i64 x272001_2) := (blk_cell BK271.out 1).trans rfl
                  have hcz34_2 : w25.cell? ⟨gb271, 2, none⟩ = some (.int .i64 x272002_2) := (blk_cell BK271.out 2).trans rfl
                  have hcz34_3 : w25.cell? ⟨gb271, 3, none⟩ = some (.bool x272003_2) := (blk_cell BK271.out 3).trans rfl
                  have hfz34_0 := blk_frozen BK271.out 0
                  have hfz34_1 := blk_frozen BK271.out 1
                  have hfz34_2 := blk_frozen BK271.out 2
                  have hfz34_3 := blk_frozen BK271.out 3
                  have p279 : 0 ≤ (x10_2 : Int) := of_decide_eq_true (by first | (with_reducible assumption) | assumption)
                  have q279 : x10_2 < (l1.length : Int) := of_decide_eq_true (by first | (with_reducible assumption) | assumption)
                  obtain ⟨ad279, e279, hx279_0, hx279_1, hx279_2⟩ := at_T27 HR1.out x10_2 p279 q279
                  obtain rfl : ad272 = ad279 := (by injection e279)
                  have hn279_0 : ad272.block ≠ gb278 := Nat.ne_of_lt (Nat.lt_of_lt_of_le (by have := World.block_lt_of_cell? _ _ hx279_0; first | rwa [add_block] at this | exact this) GW278.out)
                  have hn279_1 : ad272.block ≠ gb278 := Nat.ne_of_lt (Nat.lt_of_lt_of_le (by have := World.block_lt_of_cell? _ _ hx279_0; first | rwa [add_block] at this | exact this) GW278.out)
                  have hn279_2 : ad272.block ≠ gb278 := Nat.ne_of_lt (Nat.lt_of_lt_of_le (by have := World.block_lt_of_cell? _ _ hx279_0; first | rwa [add_block] at this | exact this) GW278.out)
                  have hn279_3 : ad272.block ≠ gb278 := Nat.ne_of_lt (Nat.lt_of_lt_of_le (by have := World.block_lt_of_cell? _ _ hx279_0; first | rwa [add_block] at this | exact this) GW278.out)
                  have hn279_4 : ad272.block ≠ gb271 := Nat.ne_of_lt (Nat.lt_of_lt_of_le (by have := World.block_lt_of_cell? _ _ hx279_0; first | rwa [add_block] at this | exact this) GW271.out)
                  have hn279_5 : ad272.block ≠ gb271 := Nat.ne_of_lt (Nat.lt_of_lt_of_le (by have := World.block_lt_of_cell? _ _ hx279_0; first | rwa [add_block] at this | exact this) GW271.out)
                  have hn279_6 : ad272.block ≠ gb271 := Nat.ne_of_lt (Nat.lt_of_lt_of_le (by have := World.block_lt_of_cell? _ _ hx279_0; first | rwa [add_block] at this | exact this) GW271.out)
                  have hn279_7 : ad272.block ≠ gb271 := Nat.ne_of_lt (Nat.lt_of_lt_of_le (by have := World.block_lt_of_cell? _ _ hx279_0; first | rwa [add_block] at this | exact this) GW271.out)
                  replace hx279_0 := (HB.out.cell (World.block_lt_of_cell? w _ hx279_0)).trans hx279_0
                  replace hx279_1 := (HB.out.cell (World.block_lt_of_cell? w _ hx279_1)).trans hx279_1
                  replace hx279_2 := (HB.out.cell (World.block_lt_of_cell? w _ hx279_2)).trans hx279_2
                  replace hx279_0 := (cell_far (p := ⟨gb278, 0, none⟩) (by first | (rw [add_block]; exact hn279_0) | (show (Addr.add _ _).block ≠ _; rw [add_block]; exact hn279_0) | exact hn279_0) (.int .i64 t273)).trans hx279_0
                  replace hx279_1 := (cell_far (p := ⟨gb278, 0, none⟩) (by first | (rw [add_block]; exact hn279_0) | (show (Addr.add _ _).block ≠ _; rw [add_block]; exact hn279_0) | exact hn279_0) (.int .i64 t273)).trans hx279_1
                  replace hx279_2 := (cell_far (p := ⟨gb278, 0, none⟩) (by first | (rw [add_block]; exact hn279_0) | (show (Addr.add _ _).block ≠ _; rw [add_block]; exact hn279_0) | exact hn279_0) (.int .i64 t273)).trans hx279_2
                  replace hx279_0 := (cell_far (p := ⟨gb278, 1, none⟩) (by first | (rw [add_block]; exact hn279_1) | (show (Addr.add _ _).block ≠ _; rw [add_block]; exact hn279_1) | exact hn279_1) (.int .i64 t274)).trans hx279_0
                  replace hx279_1 := (cell_far (p := ⟨gb278, 1, none⟩) (by first | (rw [add_block]; exact hn279_1) | (show (Addr.add _ _).block ≠ _; rw [add_block]; exact hn279_1) | exact hn279_1) (.int .i64 t274)).trans hx279_1
                  replace hx279_2 := (cell_far (p := ⟨gb278, 1, none⟩) (by first | (rw [add_block]; exact hn279_1) | (show (Addr.add _ _).block ≠ _; rw [add_block]; exact hn279_1) | exact hn279_1) (.int .i64 t274)).trans hx279_2
                  replace hx279_0 := (cell_far (p := ⟨gb278, 2, none⟩) (by first | (rw [add_block]; exact hn279_2) | (show (Addr.add _ _).block ≠ _; rw [add_block]; exact hn279_2) | exact hn279_2) (.int .i64 t275)).trans hx279_0
                  replace hx279_1 := (cell_far (p := ⟨gb278, 2, none⟩) (by first | (rw [add_block]; exact hn279_2) | (show (Addr.add _ _).block ≠ _; rw [add_block]; exact hn279_2) | exact hn279_2) (.int .i64 t275)).trans hx279_1
                  replace hx279_2 := (cell_far (p := ⟨gb278, 2, none⟩) (by first | (rw [add_block]; exact hn279_2) | (show (Addr.add _ _).block ≠ _; rw [add_block]; exact hn279_2) | exact hn279_2) (.int .i64 t275)).trans hx279_2
                  replace hx279_0 := (cell_far (p := ⟨gb278, 3, none⟩) (by first | (rw [add_block]; exact hn279_3) | (show (Addr.add _ _).block ≠ _; rw [add_block]; exact hn279_3) | exact hn279_3) (.bool t276)).trans hx279_0
                  replace hx279_1 := (cell_far (p := ⟨gb278, 3, none⟩) (by first | (rw [add_block]; exact hn279_3) | (show (Addr.add _ _).block ≠ _; rw [add_block]; exact hn279_3) | exact hn279_3) (.bool t276)).trans hx279_1
                  replace hx279_2 := (cell_far (p := ⟨gb278, 3, none⟩) (by first | (rw [add_block]; exact hn279_3) | (show (Addr.add _ _).block ≠ _; rw [add_block]; exact hn279_3) | exact hn279_3) (.bool t276)).trans hx279_2
                  replace hx279_0 := (cell_far (p := ⟨gb271, 0, none⟩) (by first | (rw [add_block]; exact hn279_4) | (show (Addr.add _ _).block ≠ _; rw [add_block]; exact hn279_4) | exact hn279_4) (.int .i64 t273)).trans hx279_0
                  replace hx279_1 := (cell_far (p := ⟨gb271, 0, none⟩) (by first | (rw [add_block]; exact hn279_4) | (show (Addr.add _ _).block ≠ _; rw [add_block]; exact hn279_4) | exact hn279_4) (.int .i64 t273)).trans hx279_1
                  replace hx279_2 := (cell_far (p := ⟨gb271, 0, none⟩) (by first | (rw [add_block]; exact hn279_4) | (show (Addr.add _ _).block ≠ _; rw [add_block]; exact hn279_4) | exact hn279_4) (.int .i64 t273)).trans hx279_2
                  replace hx279_0 := (cell_far (p := ⟨gb271, 1, none⟩) (by first | (rw [add_block]; exact hn279_5) | (show (Addr.add _ _).block ≠ _; rw [add_block]; exact hn279_5) | exact hn279_5) (.int .i64 t274)).trans hx279_0
                  replace hx279_1 := (cell_far (p := ⟨gb271, 1, none⟩) (by first | (rw [add_block]; exact hn279_5) | (show (Addr.add _ _).block ≠ _; rw [add_block]; exact hn279_5) | exact hn279_5) (.int .i64 t274)).trans hx279_1
                  replace hx279_2 := (cell_far (p := ⟨gb271, 1, none⟩) (by first | (rw [add_block]; exact hn279_5) | (show (Addr.add _ _).block ≠ _; rw [add_block]; exact hn279_5) | exact hn279_5) (.int .i64 t274)).trans hx279_2
                  replace hx279_0 := (cell_far (p := ⟨gb271, 2, none⟩) (by first | (rw [add_block]; exact hn279_6) | (show (Addr.add _ _).block ≠ _; rw [add_block]; exact hn279_6) | exact hn279_6) (.int .i64 t275)).trans hx279_0
                  replace hx279_1 := (cell_far (p := ⟨gb271, 2, none⟩) (by first | (rw [add_block]; exact hn279_6) | (show (Addr.add _ _).block ≠ _; rw [add_block]; exact hn279_6) | exact hn279_6) (.int .i64 t275)).trans hx279_1
                  replace hx279_2 := (cell_far (p := ⟨gb271, 2, none⟩) (by first | (rw [add_block]; exact hn279_6) | (show (Addr.add _ _).block ≠ _; rw [add_block]; exact hn279_6) | exact hn279_6) (.int .i64 t275)).trans hx279_2
                  replace hx279_0 := (cell_far (p := ⟨gb271, 3, none⟩) (by first | (rw [add_block]; exact hn279_7) | (show (Addr.add _ _).block ≠ _; rw [add_block]; exact hn279_7) | exact hn279_7) (.bool t276)).trans hx279_0
                  replace hx279_1 := (cell_far (p := ⟨gb271, 3, none⟩) (by first | (rw [add_block]; exact hn279_7) | (show (Addr.add _ _).block ≠ _; rw [add_block]; exact hn279_7) | exact hn279_7) (.bool t276)).trans hx279_1
                  replace hx279_2 := (cell_far (p := ⟨gb271, 3, none⟩) (by first | (rw [add_block]; exact hn279_7) | (show (Addr.add _ _).block ≠ _; rw [add_block]; exact hn279_7) | exact hn279_7) (.bool t276)).trans hx279_2
                  clear hn279_0
                  clear hn279_1
                  clear hn279_2
                  clear hn279_3
                  clear hn279_4
                  clear hn279_5
                  clear hn279_6
                  clear hn279_7
                  replace p279 := eq_true p279
                  replace q279 := eq_true q279
                  go_upto_block 2 with (fail)
                  go_cut [8, 9] (fun v8 v9 wc => ∃ (kq : Nat) (x8_20 : Int) (x9_20 : Int), v8 = .int .i64 x8_20 ∧ v9 = .int .i64 x9_20 ∧ Aside0 (chargeparklaw12_ChargerLeases.j2 kq l1 x5_2 x8_20 x9_20 x10_2 a0_0 a0_1 a0_2 a0_3 a0_4 a0_5 a0_6 a0_7 t273 t274 t275 t276 = some r) ∧ Aside0 (kq ≤ k2) ∧ Aside0 (wc.heap[gb265]? = some (.cells #[.string a0_0, .int .i64 a0_1, .int .i64 a0_2, .int .i64 a0_3, .int .i64 a0_4, .int .i64 a0_5, .int .i64 a0_6, .int .i64 a0_7] 23 (0, 0))) ∧ Aside0 (wc.heap[gb271]? = some (.cells #[.int .i64 t273, .int .i64 t274, .int .i64 t275, .bool t276] 25 (0, 0))) ∧ Aside0 (wc.heap[gb278]? = some (.cells #[.int .i64 t273, .int .i64 t274, .int .i64 t275, .bool t276] 25 (0, 0))) ∧ Aside0 (Below w.heap.size w wc))
                  case first =>
                    have H := HC21.out
                    clear HC21
                    by_cases c35 : ((rd_T27 l1 x10_2).f0) = 7
                    · rw [if_pos c35] at H
                      have c35b0 : (((rd_T27 l1 x10_2).f0) == 7) = true := beq_iff_eq.mpr c35
                      have c35b1 : (((rd_T27 l1 x10_2).f0) != 7) = false := bne_eq_false_iff_eq.mpr c35
                      clear c35
                      (first | rw [c35b0] | (simp only [i64_w, i32_w]; rw [c35b0]) | skip)
                      have H' := Aside0.mk H
                      clear H
                      have p280 : 0 ≤ (x10_2 : Int) := of_decide_eq_true (by first | (with_reducible assumption) | assumption)
                      have q280 : x10_2 < (l1.length : Int) := of_decide_eq_true (by first | (with_reducible assumption) | assumption)
                      obtain ⟨ad280, e280, hx280_0, hx280_1, hx280_2⟩ := at_T27 HR1.out x10_2 p280 q280
                      obtain rfl : ad272 = ad280 := (by injection e280)
                      have hn280_0 : ad272.block ≠ gb278 := Nat.ne_of_lt (Nat.lt_of_lt_of_le (by have := World.block_lt_of_cell? _ _ hx280_0; first | rwa [add_block] at this | exact this) GW278.out)
                      have hn280_1 : ad272.block ≠ gb278 := Nat.ne_of_lt (Nat.lt_of_lt_of_le (by have := World.block_lt_of_cell? _ _ hx280_0; first | rwa [add_block] at this | exact this) GW278.out)
                      have hn280_2 : ad272.block ≠ gb278 := Nat.ne_of_lt (Nat.lt_of_lt_of_le (by have := World.block_lt_of_cell? _ _ hx280_0; first | rwa [add_block] at this | exact this) GW278.out)
                      have hn280_3 : ad272.block ≠ gb278 := Nat.ne_of_lt (Nat.lt_of_lt_of_le (by have := World.block_lt_of_cell? _ _ hx280_0; first | rwa [add_block] at this | exact this) GW278.out)
                      have hn280_4 : ad272.block ≠ gb271 := Nat.ne_of_lt (Nat.lt_of_lt_of_le (by have := World.block_lt_of_cell? _ _ hx280_0; first | rwa [add_block] at this | exact this) GW271.out)
                      have hn280_5 : ad272.block ≠ gb271 := Nat.ne_of_lt (Nat.lt_of_lt_of_le (by have := World.block_lt_of_cell? _ _ hx280_0; first | rwa [add_block] at this | exact this) GW271.out)
                      have hn280_6 : ad272.block ≠ gb271 := Nat.ne_of_lt (Nat.lt_of_lt_of_le (by have := World.block_lt_of_cell? _ _ hx280_0; first | rwa [add_block] at this | exact this) GW271.out)
                      have hn280_7 : ad272.block ≠ gb271 := Nat.ne_of_lt (Nat.lt_of_lt_of_le (by have := World.block_lt_of_cell? _ _ hx280_0; first | rwa [add_block] at this | exact this) GW271.out)
                      replace hx280_0 := (HB.out.cell (World.block_lt_of_cell? w _ hx280_0)).trans hx280_0
                      replace hx280_1 := (HB.out.cell (World.block_lt_of_cell? w _ hx280_1)).trans hx280_1
                      replace hx280_2 := (HB.out.cell (World.block_lt_of_cell? w _ hx280_2)).trans hx280_2
                      replace hx280_0 := (cell_far (p := ⟨gb278, 0, none⟩) (by first | (rw [add_block]; exact hn280_0) | (show (Addr.add _ _).block ≠ _; rw [add_block]; exact hn280_0) | exact hn280_0) (.int .i64 t273)).trans hx280_0
                      replace hx280_1 := (cell_far (p := ⟨gb278, 0, none⟩) (by first | (rw [add_block]; exact hn280_0) | (show (Addr.add _ _).block ≠ _; rw [add_block]; exact hn280_0) | exact hn280_0) (.int .i64 t273)).trans hx280_1
                      replace hx280_2 := (cell_far (p := ⟨gb278, 0, none⟩) (by first | (rw [add_block]; exact hn280_0) | (show (Addr.add _ _).block ≠ _; rw [add_block]; exact hn280_0) | exact hn280_0) (.int .i64 t273)).trans hx280_2
                      replace hx280_0 := (cell_far (p := ⟨gb278, 1, none⟩) (by first | (rw [add_block]; exact hn280_1) | (show (Addr.add _ _).block ≠ _; rw [add_block]; exact hn280_1) | exact hn280_1) (.int .i64 t274)).trans hx280_0
                      replace hx280_1 := (cell_far (p := ⟨gb278, 1, none⟩) (by first | (rw [add_block]; exact hn280_1) | (show (Addr.add _ _).block ≠ _; rw [add_block]; exact hn280_1) | exact hn280_1) (.int .i64 t274)).trans hx280_1
                      replace hx280_2 := (cell_far (p := ⟨gb278, 1, none⟩) (by first | (rw [add_block]; exact hn280_1) | (show (Addr.add _ _).block ≠ _; rw [add_block]; exact hn280_1) | exact hn280_1) (.int .i64 t274)).trans hx280_2
                      replace hx280_0 := (cell_far (p := ⟨gb278, 2, none⟩) (by first | (rw [add_block]; exact hn280_2) | (show (Addr.add _ _).block ≠ _; rw [add_block]; exact hn280_2) | exact hn280_2) (.int .i64 t275)).trans hx280_0
                      replace hx280_1 := (cell_far (p := ⟨gb278, 2, none⟩) (by first | (rw [add_block]; exact hn280_2) | (show (Addr.add _ _).block ≠ _; rw [add_block]; exact hn280_2) | exact hn280_2) (.int .i64 t275)).trans hx280_1
                      replace hx280_2 := (cell_far (p := ⟨gb278, 2, none⟩) (by first | (rw [add_block]; exact hn280_2) | (show (Addr.add _ _).block ≠ _; rw [add_block]; exact hn280_2) | exact hn280_2) (.int .i64 t275)).trans hx280_2
                      replace hx280_0 := (cell_far (p := ⟨gb278, 3, none⟩) (by first | (rw [add_block]; exact hn280_3) | (show (Addr.add _ _).block ≠ _; rw [add_block]; exact hn280_3) | exact hn280_3) (.bool t276)).trans hx280_0
                      replace hx280_1 := (cell_far (p := ⟨gb278, 3, none⟩) (by first | (rw [add_block]; exact hn280_3) | (show (Addr.add _ _).block ≠ _; rw [add_block]; exact hn280_3) | exact hn280_3) (.bool t276)).trans hx280_1
                      replace hx280_2 := (cell_far (p := ⟨gb278, 3, none⟩) (by first | (rw [add_block]; exact hn280_3) | (show (Addr.add _ _).block ≠ _; rw [add_block]; exact hn280_3) | exact hn280_3) (.bool t276)).trans hx280_2
                      replace hx280_0 := (cell_far (p := ⟨gb271, 0, none⟩) (by first | (rw [add_block]; exact hn280_4) | (show (Addr.add _ _).block ≠ _; rw [add_block]; exact hn280_4) | exact hn280_4) (.int .i64 t273)).trans hx280_0
                      replace hx280_1 := (cell_far (p := ⟨gb271, 0, none⟩) (by first | (rw [add_block]; exact hn280_4) | (show (Addr.add _ _).block ≠ _; rw [add_block]; exact hn280_4) | exact hn280_4) (.int .i64 t273)).trans hx280_1
                      replace hx280_2 := (cell_far (p := ⟨gb271, 0, none⟩) (by first | (rw [add_block]; exact hn280_4) | (show (Addr.add _ _).block ≠ _; rw [add_block]; exact hn280_4) | exact hn280_4) (.int .i64 t273)).trans hx280_2
                      replace hx280_0 := (cell_far (p := ⟨gb271, 1, none⟩) (by first | (rw [add_block]; exact hn280_5) | (show (Addr.add _ _).block ≠ _; rw [add_block]; exact hn280_5) | exact hn280_5) (.int .i64 t274)).trans hx280_0
                      replace hx280_1 := (cell_far (p := ⟨gb271, 1, none⟩) (by first | (rw [add_block]; exact hn280_5) | (show (Addr.add _ _).block ≠ _; rw [add_block]; exact hn280_5) | exact hn280_5) (.int .i64 t274)).trans hx280_1
                      replace hx280_2 := (cell_far (p := ⟨gb271, 1, none⟩) (by first | (rw [add_block]; exact hn280_5) | (show (Addr.add _ _).block ≠ _; rw [add_block]; exact hn280_5) | exact hn280_5) (.int .i64 t274)).trans hx280_2
                      replace hx280_0 := (cell_far (p := ⟨gb271, 2, none⟩) (by first | (rw [add_block]; exact hn280_6) | (show (Addr.add _ _).block ≠ _; rw [add_block]; exact hn280_6) | exact hn280_6) (.int .i64 t275)).trans hx280_0
                      replace hx280_1 := (cell_far (p := ⟨gb271, 2, none⟩) (by first | (rw [add_block]; exact hn280_6) | (show (Addr.add _ _).block ≠ _; rw [add_block]; exact hn280_6) | exact hn280_6) (.int .i64 t275)).trans hx280_1
                      replace hx280_2 := (cell_far (p := ⟨gb271, 2, none⟩) (by first | (rw [add_block]; exact hn280_6) | (show (Addr.add _ _).block ≠ _; rw [add_block]; exact hn280_6) | exact hn280_6) (.int .i64 t275)).trans hx280_2
                      replace hx280_0 := (cell_far (p := ⟨gb271, 3, none⟩) (by first | (rw [add_block]; exact hn280_7) | (show (Addr.add _ _).block ≠ _; rw [add_block]; exact hn280_7) | exact hn280_7) (.bool t276)).trans hx280_0
                      replace hx280_1 := (cell_far (p := ⟨gb271, 3, none⟩) (by first | (rw [add_block]; exact hn280_7) | (show (Addr.add _ _).block ≠ _; rw [add_block]; exact hn280_7) | exact hn280_7) (.bool t276)).trans hx280_1
                      replace hx280_2 := (cell_far (p := ⟨gb271, 3, none⟩) (by first | (rw [add_block]; exact hn280_7) | (show (Addr.add _ _).block ≠ _; rw [add_block]; exact hn280_7) | exact hn280_7) (.bool t276)).trans hx280_2
                      clear hn280_0
                      clear hn280_1
                      clear hn280_2
                      clear hn280_3
                      clear hn280_4
                      clear hn280_5
                      clear hn280_6
                      clear hn280_7
                      replace p280 := eq_true p280
                      replace q280 := eq_true q280
                      have p281 : 0 ≤ (x10_2 : Int) := of_decide_eq_true (by first | (with_reducible assumption) | assumption)
                      have q281 : x10_2 < (l1.length : Int) := of_decide_eq_true (by first | (with_reducible assumption) | assumption)
                      obtain ⟨ad281, e281, hx281_0, hx281_1, hx281_2⟩ := at_T27 HR1.out x10_2 p281 q281
                      obtain rfl : ad272 = ad281 := (by injection e281)
                      have hn281_0 : ad272.block ≠ gb278 := Nat.ne_of_lt (Nat.lt_of_lt_of_le (by have := World.block_lt_of_cell? _ _ hx281_0; first | rwa [add_block] at this | exact this) GW278.out)
                      have hn281_1 : ad272.block ≠ gb278 := Nat.ne_of_lt (Nat.lt_of_lt_of_le (by have := World.block_lt_of_cell? _ _ hx281_0; first | rwa [add_block] at this | exact this) GW278.out)
                      have hn281_2 : ad272.block ≠ gb278 := Nat.ne_of_lt (Nat.lt_of_lt_of_le (by have := World.block_lt_of_cell? _ _ hx281_0; first | rwa [add_block] at this | exact this) GW278.out)
                      have hn281_3 : ad272.block ≠ gb278 := Nat.ne_of_lt (Nat.lt_of_lt_of_le (by have := World.block_lt_of_cell? _ _ hx281_0; first | rwa [add_block] at this | exact this) GW278.out)
                      have hn281_4 : ad272.block ≠ gb271 := Nat.ne_of_lt (Nat.lt_of_lt_of_le (by have := World.block_lt_of_cell? _ _ hx281_0; first | rwa [add_block] at this | exact this) GW271.out)
                      have hn281_5 : ad272.block ≠ gb271 := Nat.ne_of_lt (Nat.lt_of_lt_of_le (by have := World.block_lt_of_cell? _ _ hx281_0; first | rwa [add_block] at this | exact this) GW271.out)
                      have hn281_6 : ad272.block ≠ gb271 := Nat.ne_of_lt (Nat.lt_of_lt_of_le (by have := World.block_lt_of_cell? _ _ hx281_0; first | rwa [add_block] at this | exact this) GW271.out)
                      have hn281_7 : ad272.block ≠ gb271 := Nat.ne_of_lt (Nat.lt_of_lt_of_le (by have := World.block_lt_of_cell? _ _ hx281_0; first | rwa [add_block] at this | exact this) GW271.out)
                      replace hx281_0 := (HB.out.cell (World.block_lt_of_cell? w _ hx281_0)).trans hx281_0
                      replace hx281_1 := (HB.out.cell (World.block_lt_of_cell? w _ hx281_1)).trans hx281_1
                      replace hx281_2 := (HB.out.cell (World.block_lt_of_cell? w _ hx281_2)).trans hx281_2
                      replace hx281_0 := (cell_far (p := ⟨gb278, 0, none⟩) (by first | (rw [add_block]; exact hn281_0) | (show (Addr.add _ _).block ≠ _; rw [add_block]; exact hn281_0) | exact hn281_0) (.int .i64 t273)).trans hx281_0
                      replace hx281_1 := (cell_far (p := ⟨gb278, 0, none⟩) (by first | (rw [add_block]; exact hn281_0) | (show (Addr.add _ _).block ≠ _; rw [add_block]; exact hn281_0) | exact hn281_0) (.int .i64 t273)).trans hx281_1
                      replace hx281_2 := (cell_far (p := ⟨gb278, 0, none⟩) (by first | (rw [add_block]; exact hn281_0) | (show (Addr.add _ _).block ≠ _; rw [add_block]; exact hn281_0) | exact hn281_0) (.int .i64 t273)).trans hx281_2
                      replace hx281_0 := (cell_far (p := ⟨gb278, 1, none⟩) (by first | (rw [add_block]; exact hn281_1) | (show (Addr.add _ _).block ≠ _; rw [add_block]; exact hn281_1) | exact hn281_1) (.int .i64 t274)).trans hx281_0
                      replace hx281_1 := (cell_far (p := ⟨gb278, 1, none⟩) (by first | (rw [add_block]; exact hn281_1) | (show (Addr.add _ _).block ≠ _; rw [add_block]; exact hn281_1) | exact hn281_1) (.int .i64 t274)).trans hx281_1
                      replace hx281_2 := (cell_far (p := ⟨gb278, 1, none⟩) (by first | (rw [add_block]; exact hn281_1) | (show (Addr.add _ _).block ≠ _; rw [add_block]; exact hn281_1) | exact hn281_1) (.int .i64 t274)).trans hx281_2
                      replace hx281_0 := (cell_far (p := ⟨gb278, 2, none⟩) (by first | (rw [add_block]; exact hn281_2) | (show (Addr.add _ _).block ≠ _; rw [add_block]; exact hn281_2) | exact hn281_2) (.int .i64 t275)).trans hx281_0
                      replace hx281_1 := (cell_far (p := ⟨gb278, 2, none⟩) (by first | (rw [add_block]; exact hn281_2) | (show (Addr.add _ _).block ≠ _; rw [add_block]; exact hn281_2) | exact hn281_2) (.int .i64 t275)).trans hx281_1
                      replace hx281_2 := (cell_far (p := ⟨gb278, 2, none⟩) (by first | (rw [add_block]; exact hn281_2) | (show (Addr.add _ _).block ≠ _; rw [add_block]; exact hn281_2) | exact hn281_2) (.int .i64 t275)).trans hx281_2
                      replace hx281_0 := (cell_far (p := ⟨gb278, 3, none⟩) (by first | (rw [add_block]; exact hn281_3) | (show (Addr.add _ _).block ≠ _; rw [add_block]; exact hn281_3) | exact hn281_3) (.bool t276)).trans hx281_0
                      replace hx281_1 := (cell_far (p := ⟨gb278, 3, none⟩) (by first | (rw [add_block]; exact hn281_3) | (show (Addr.add _ _).block ≠ _; rw [add_block]; exact hn281_3) | exact hn281_3) (.bool t276)).trans hx281_1
                      replace hx281_2 := (cell_far (p := ⟨gb278, 3, none⟩) (by first | (rw [add_block]; exact hn281_3) | (show (Addr.add _ _).block ≠ _; rw [add_block]; exact hn281_3) | exact hn281_3) (.bool t276)).trans hx281_2
                      replace hx281_0 := (cell_far (p := ⟨gb271, 0, none⟩) (by first | (rw [add_block]; exact hn281_4) | (show (Addr.add _ _).block ≠ _; rw [add_block]; exact hn281_4) | exact hn281_4) (.int .i64 t273)).trans hx281_0
                      replace hx281_1 := (cell_far (p := ⟨gb271, 0, none⟩) (by first | (rw [add_block]; exact hn281_4) | (show (Addr.add _ _).block ≠ _; rw [add_block]; exact hn281_4) | exact hn281_4) (.int .i64 t273)).trans hx281_1
                      replace hx281_2 := (cell_far (p := ⟨gb271, 0, none⟩) (by first | (rw [add_block]; exact hn281_4) | (show (Addr.add _ _).block ≠ _; rw [add_block]; exact hn281_4) | exact hn281_4) (.int .i64 t273)).trans hx281_2
                      replace hx281_0 := (cell_far (p := ⟨gb271, 1, none⟩) (by first | (rw [add_block]; exact hn281_5) | (show (Addr.add _ _).block ≠ _; rw [add_block]; exact hn281_5) | exact hn281_5) (.int .i64 t274)).trans hx281_0
                      replace hx281_1 := (cell_far (p := ⟨gb271, 1, none⟩) (by first | (rw [add_block]; exact hn281_5) | (show (Addr.add _ _).block ≠ _; rw [add_block]; exact hn281_5) | exact hn281_5) (.int .i64 t274)).trans hx281_1
                      replace hx281_2 := (cell_far (p := ⟨gb271, 1, none⟩) (by first | (rw [add_block]; exact hn281_5) | (show (Addr.add _ _).block ≠ _; rw [add_block]; exact hn281_5) | exact hn281_5) (.int .i64 t274)).trans hx281_2
                      replace hx281_0 := (cell_far (p := ⟨gb271, 2, none⟩) (by first | (rw [add_block]; exact hn281_6) | (show (Addr.add _ _).block ≠ _; rw [add_block]; exact hn281_6) | exact hn281_6) (.int .i64 t275)).trans hx281_0
                      replace hx281_1 := (cell_far (p := ⟨gb271, 2, none⟩) (by first | (rw [add_block]; exact hn281_6) | (show (Addr.add _ _).block ≠ _; rw [add_block]; exact hn281_6) | exact hn281_6) (.int .i64 t275)).trans hx281_1
                      replace hx281_2 := (cell_far (p := ⟨gb271, 2, none⟩) (by first | (rw [add_block]; exact hn281_6) | (show (Addr.add _ _).block ≠ _; rw [add_block]; exact hn281_6) | exact hn281_6) (.int .i64 t275)).trans hx281_2
                      replace hx281_0 := (cell_far (p := ⟨gb271, 3, none⟩) (by first | (rw [add_block]; exact hn281_7) | (show (Addr.add _ _).block ≠ _; rw [add_block]; exact hn281_7) | exact hn281_7) (.bool t276)).trans hx281_0
                      replace hx281_1 := (cell_far (p := ⟨gb271, 3, none⟩) (by first | (rw [add_block]; exact hn281_7) | (show (Addr.add _ _).block ≠ _; rw [add_block]; exact hn281_7) | exact hn281_7) (.bool t276)).trans hx281_1
                      replace hx281_2 := (cell_far (p := ⟨gb271, 3, none⟩) (by first | (rw [add_block]; exact hn281_7) | (show (Addr.add _ _).block ≠ _; rw [add_block]; exact hn281_7) | exact hn281_7) (.bool t276)).trans hx281_2
                      clear hn281_0
                      clear hn281_1
                      clear hn281_2
                      clear hn281_3
                      clear hn281_4
                      clear hn281_5
                      clear hn281_6
                      clear hn281_7
                      replace p281 := eq_true p281
                      replace q281 := eq_true q281
                      go_wp2
                      go_meet
                      case rel => exact ⟨_, ((rd_T27 l1 x10_2).f1), ((rd_T27 l1 x10_2).f2), (by first | rfl | (simp; done) | (simp [*]; done)), (by first | rfl | (simp; done) | (simp [*]; done)), H', ⟨by have := HJ4.out; have := HK2.out; first | omega | exact Nat.le_refl _⟩, ⟨by (with_reducible repeat (first | refine blk_drewN ?_ _ | refine blk_drew ?_ | refine blk_alloc ?_ _)); refine blk_far ?_ NB265_271.out _; (with_reducible repeat (first | refine blk_drewN ?_ _ | refine blk_drew ?_ | refine blk_alloc ?_ _)); refine blk_far ?_ NB265_271.out _; (with_reducible repeat (first | refine blk_drewN ?_ _ | refine blk_drew ?_ | refine blk_alloc ?_ _)); refine blk_far ?_ NB265_271.out _; (with_reducible repeat (first | refine blk_drewN ?_ _ | refine blk_drew ?_ | refine blk_alloc ?_ _)); refine blk_far ?_ NB265_271.out _; (with_reducible repeat (first | refine blk_drewN ?_ _ | refine blk_drew ?_ | refine blk_alloc ?_ _)); refine blk_far ?_ NB265_278.out _; (with_reducible repeat (first | refine blk_drewN ?_ _ | refine blk_drew ?_ | refine blk_alloc ?_ _)); refine blk_far ?_ NB265_278.out _; (with_reducible repeat (first | refine blk_drewN ?_ _ | refine blk_drew ?_ | refine blk_alloc ?_ _)); refine blk_far ?_ NB265_278.out _; (with_reducible repeat (first | refine blk_drewN ?_ _ | refine blk_drew ?_ | refine blk_alloc ?_ _)); refine blk_far ?_ NB265_278.out _; (with_reducible repeat (first | refine blk_drewN ?_ _ | refine blk_drew ?_ | refine blk_alloc ?_ _)); exact BK265.out⟩, ⟨by (with_reducible repeat (first | refine blk_drewN ?_ _ | refine blk_drew ?_ | refine blk_alloc ?_ _)); refine blk_put (cs := #[.int .i64 t273, .int .i64 t274, .int .i64 t275, .bool x272003_2]) ?_ 3 _ rfl; (with_reducible repeat (first | refine blk_drewN ?_ _ | refine blk_drew ?_ | refine blk_alloc ?_ _)); refine blk_put (cs := #[.int .i64 t273, .int .i64 t274, .int .i64 x272002_2, .bool x272003_2]) ?_ 2 _ rfl; (with_reducible repeat (first | refine blk_drewN ?_ _ | refine blk_drew ?_ | refine blk_alloc ?_ _)); refine blk_put (cs := #[.int .i64 t273, .int .i64 x272001_2, .int .i64 x272002_2, .bool x272003_2]) ?_ 1 _ rfl; (with_reducible repeat (first | refine blk_drewN ?_ _ | refine blk_drew ?_ | refine blk_alloc ?_ _)); refine blk_put (cs := #[.int .i64 x272000_2, .int .i64 x272001_2, .int .i64 x272002_2, .bool x272003_2]) ?_ 0 _ rfl; (with_reducible repeat (first | refine blk_drewN ?_ _ | refine blk_drew ?_ | refine blk_alloc ?_ _)); refine blk_far ?_ NB271_278.out _; (with_reducible repeat (first | refine blk_drewN ?_ _ | refine blk_drew ?_ | refine blk_alloc ?_ _)); refine blk_far ?_ NB271_278.out _; (with_reducible repeat (first | refine blk_drewN ?_ _ | refine blk_drew ?_ | refine blk_alloc ?_ _)); refine blk_far ?_ NB271_278.out _; (with_reducible repeat (first | refine blk_drewN ?_ _ | refine blk_drew ?_ | refine blk_alloc ?_ _)); refine blk_far ?_ NB271_278.out _; (with_reducible repeat (first | refine blk_drewN ?_ _ | refine blk_drew ?_ | refine blk_alloc ?_ _)); exact BK271.out⟩, ⟨by (with_reducible repeat (first | refine blk_drewN ?_ _ | refine blk_drew ?_ | refine blk_alloc ?_ _)); refine blk_far ?_ NB278_271.out _; (with_reducible repeat (first | refine blk_drewN ?_ _ | refine blk_drew ?_ | refine blk_alloc ?_ _)); refine blk_far ?_ NB278_271.out _; (with_reducible repeat (first | refine blk_drewN ?_ _ | refine blk_drew ?_ | refine blk_alloc ?_ _)); refine blk_far ?_ NB278_271.out _; (with_reducible repeat (first | refine blk_drewN ?_ _ | refine blk_drew ?_ | refine blk_alloc ?_ _)); refine blk_far ?_ NB278_271.out _; (with_reducible repeat (first | refine blk_drewN ?_ _ | refine blk_drew ?_ | refine blk_alloc ?_ _)); refine blk_put (cs := #[.int .i64 t273, .int .i64 t274, .int .i64 t275, .bool false]) ?_ 3 _ rfl; (with_reducible repeat (first | refine blk_drewN ?_ _ | refine blk_drew ?_ | refine blk_alloc ?_ _)); refine blk_put (cs := #[.int .i64 t273, .int .i64 t274, .int .i64 0, .bool false]) ?_ 2 _ rfl; (with_reducible repeat (first | refine blk_drewN ?_ _ | refine blk_drew ?_ | refine blk_alloc ?_ _)); refine blk_put (cs := #[.int .i64 t273, .int .i64 0, .int .i64 0, .bool false]) ?_ 1 _ rfl; (with_reducible repeat (first | refine blk_drewN ?_ _ | refine blk_drew ?_ | refine blk_alloc ?_ _)); refine blk_put (cs := #[.int .i64 0, .int .i64 0, .int .i64 0, .bool false]) ?_ 0 _ rfl; (with_reducible repeat (first | refine blk_drewN ?_ _ | refine blk_drew ?_ | refine blk_alloc ?_ _)); exact BK278.out⟩, ⟨by repeat (first | (with_reducible first | exact HB.out | apply below_alloc | apply pw_below_drewN | apply below_drew1 | refine below_set ?_ GE265.out | refine below_set ?_ GE271.out | refine below_set ?_ GE278.out) | exact HB.out)⟩⟩
                    · rw [if_neg c35] at H
                      have c35b0 : (((rd_T27 l1 x10_2).f0) == 7) = false := beq_eq_false_iff_ne.mpr c35
                      have c35b1 : (((rd_T27 l1 x10_2).f0) != 7) = true := bne_iff_ne.mpr c35
                      (first | rw [c35b0] | (simp only [i64_w, i32_w]; rw [c35b0]) | skip)
                      by_cases c36 : ((rd_T27 l1 x10_2).f0) = 8
                      · rw [if_pos c36] at H
                        have c36b0 : (((rd_T27 l1 x10_2).f0) == 8) = true := beq_iff_eq.mpr c36
                        have c36b1 : (((rd_T27 l1 x10_2).f0) != 8) = false := bne_eq_false_iff_eq.mpr c36
                        clear c36
                        have H' := Aside0.mk H
                        clear H
                        go_wp2
                        go_meet
                        case rel => exact ⟨_, (x8_2), (wrap64 (x9_2 - 1)), (by first | rfl | (simp; done) | (simp [*]; done)), (by first | rfl | (simp; done) | (simp [*]; done)), H', ⟨by have := HJ4.out; have := HK2.out; first | omega | exact Nat.le_refl _⟩, ⟨by (with_reducible repeat (first | refine blk_drewN ?_ _ | refine blk_drew ?_ | refine blk_alloc ?_ _)); refine blk_far ?_ NB265_271.out _; (with_reducible repeat (first | refine blk_drewN ?_ _ | refine blk_drew ?_ | refine blk_alloc ?_ _)); refine blk_far ?_ NB265_271.out _; (with_reducible repeat (first | refine blk_drewN ?_ _ | refine blk_drew ?_ | refine blk_alloc ?_ _)); refine blk_far ?_ NB265_271.out _; (with_reducible repeat (first | refine blk_drewN ?_ _ | refine blk_drew ?_ | refine blk_alloc ?_ _)); refine blk_far ?_ NB265_271.out _; (with_reducible repeat (first | refine blk_drewN ?_ _ | refine blk_drew ?_ | refine blk_alloc ?_ _)); refine blk_far ?_ NB265_278.out _; (with_reducible repeat (first | refine blk_drewN ?_ _ | refine blk_drew ?_ | refine blk_alloc ?_ _)); refine blk_far ?_ NB265_278.out _; (with_reducible repeat (first | refine blk_drewN ?_ _ | refine blk_drew ?_ | refine blk_alloc ?_ _)); refine blk_far ?_ NB265_278.out _; (with_reducible repeat (first | refine blk_drewN ?_ _ | refine blk_drew ?_ | refine blk_alloc ?_ _)); refine blk_far ?_ NB265_278.out _; (with_reducible repeat (first | refine blk_drewN ?_ _ | refine blk_drew ?_ | refine blk_alloc ?_ _)); exact BK265.out⟩, ⟨by (with_reducible repeat (first | refine blk_drewN ?_ _ | refine blk_drew ?_ | refine blk_alloc ?_ _)); refine blk_put (cs := #[.int .i64 t273, .int .i64 t274, .int .i64 t275, .bool x272003_2]) ?_ 3 _ rfl; (with_reducible repeat (first | refine blk_drewN ?_ _ | refine blk_drew ?_ | refine blk_alloc ?_ _)); refine blk_put (cs := #[.int .i64 t273, .int .i64 t274, .int .i64 x272002_2, .bool x272003_2]) ?_ 2 _ rfl; (with_reducible repeat (first | refine blk_drewN ?_ _ | refine blk_drew ?_ | refine blk_alloc ?_ _)); refine blk_put (cs := #[.int .i64 t273, .int .i64 x272001_2, .int .i64 x272002_2, .bool x272003_2]) ?_ 1 _ rfl; (with_reducible repeat (first | refine blk_drewN ?_ _ | refine blk_drew ?_ | refine blk_alloc ?_ _)); refine blk_put (cs := #[.int .i64 x272000_2, .int .i64 x272001_2, .int .i64 x272002_2, .bool x272003_2]) ?_ 0 _ rfl; (with_reducible repeat (first | refine blk_drewN ?_ _ | refine blk_drew ?_ | refine blk_alloc ?_ _)); refine blk_far ?_ NB271_278.out _; (with_reducible repeat (first | refine blk_drewN ?_ _ | refine blk_drew ?_ | refine blk_alloc ?_ _)); refine blk_far ?_ NB271_278.out _; (with_reducible repeat (first | refine blk_drewN ?_ _ | refine blk_drew ?_ | refine blk_alloc ?_ _)); refine blk_far ?_ NB271_278.out _; (with_reducible repeat (first | refine blk_drewN ?_ _ | refine blk_drew ?_ | refine blk_alloc ?_ _)); refine blk_far ?_ NB271_278.out _; (with_reducible repeat (first | refine blk_drewN ?_ _ | refine blk_drew ?_ | refine blk_alloc ?_ _)); exact BK271.out⟩, ⟨by (with_reducible repeat (first | refine blk_drewN ?_ _ | refine blk_drew ?_ | refine blk_alloc ?_ _)); refine blk_far ?_ NB278_271.out _; (with_reducible repeat (first | refine blk_drewN ?_ _ | refine blk_drew ?_ | refine blk_alloc ?_ _)); refine blk_far ?_ NB278_271.out _; (with_reducible repeat (first | refine blk_drewN ?_ _ | refine blk_drew ?_ | refine blk_alloc ?_ _)); refine blk_far ?_ NB278_271.out _; (with_reducible repeat (first | refine blk_drewN ?_ _ | refine blk_drew ?_ | refine blk_alloc ?_ _)); refine blk_far ?_ NB278_271.out _; (with_reducible repeat (first | refine blk_drewN ?_ _ | refine blk_drew ?_ | refine blk_alloc ?_ _)); refine blk_put (cs := #[.int .i64 t273, .int .i64 t274, .int .i64 t275, .bool false]) ?_ 3 _ rfl; (with_reducible repeat (first | refine blk_drewN ?_ _ | refine blk_drew ?_ | refine blk_alloc ?_ _)); refine blk_put (cs := #[.int .i64 t273, .int .i64 t274, .int .i64 0, .bool false]) ?_ 2 _ rfl; (with_reducible repeat (first | refine blk_drewN ?_ _ | refine blk_drew ?_ | refine blk_alloc ?_ _)); refine blk_put (cs := #[.int .i64 t273, .int .i64 0, .int .i64 0, .bool false]) ?_ 1 _ rfl; (with_reducible repeat (first | refine blk_drewN ?_ _ | refine blk_drew ?_ | refine blk_alloc ?_ _)); refine blk_put (cs := #[.int .i64 0, .int .i64 0, .int .i64 0, .bool false]) ?_ 0 _ rfl; (with_reducible repeat (first | refine blk_drewN ?_ _ | refine blk_drew ?_ | refine blk_alloc ?_ _)); exact BK278.out⟩, ⟨by repeat (first | (with_reducible first | exact HB.out | apply below_alloc | apply pw_below_drewN | apply below_drew1 | refine below_set ?_ GE265.out | refine below_set ?_ GE271.out | refine below_set ?_ GE278.out) | exact HB.out)⟩⟩
                      · rw [if_neg c36] at H
                        have c36b0 : (((rd_T27 l1 x10_2).f0) == 8) = false := beq_eq_false_iff_ne.mpr c36
                        have c36b1 : (((rd_T27 l1 x10_2).f0) != 8) = true := bne_iff_ne.mpr c36
                        by_cases c37 : ((rd_T27 l1 x10_2).f0) = 9
                        · rw [if_pos c37] at H
                          have c37b0 : (((rd_T27 l1 x10_2).f0) == 9) = true := beq_iff_eq.mpr c37
                          have c37b1 : (((rd_T27 l1 x10_2).f0) != 9) = false := bne_eq_false_iff_eq.mpr c37
                          clear c37
                          have H' := Aside0.mk H
                          clear H
                          go_wp2
                          go_meet
                          case rel => exact ⟨_, (x8_2), (0), (by first | rfl | (simp; done) | (simp [*]; done)), (by first | rfl | (simp; done) | (simp [*]; done)), H', ⟨by have := HJ4.out; have := HK2.out; first | omega | exact Nat.le_refl _⟩, ⟨by (with_reducible repeat (first | refine blk_drewN ?_ _ | refine blk_drew ?_ | refine blk_alloc ?_ _)); refine blk_far ?_ NB265_271.out _; (with_reducible repeat (first | refine blk_drewN ?_ _ | refine blk_drew ?_ | refine blk_alloc ?_ _)); refine blk_far ?_ NB265_271.out _; (with_reducible repeat (first | refine blk_drewN ?_ _ | refine blk_drew ?_ | refine blk_alloc ?_ _)); refine blk_far ?_ NB265_271.out _; (with_reducible repeat (first | refine blk_drewN ?_ _ | refine blk_drew ?_ | refine blk_alloc ?_ _)); refine blk_far ?_ NB265_271.out _; (with_reducible repeat (first | refine blk_drewN ?_ _ | refine blk_drew ?_ | refine blk_alloc ?_ _)); refine blk_far ?_ NB265_278.out _; (with_reducible repeat (first | refine blk_drewN ?_ _ | refine blk_drew ?_ | refine blk_alloc ?_ _)); refine blk_far ?_ NB265_278.out _; (with_reducible repeat (first | refine blk_drewN ?_ _ | refine blk_drew ?_ | refine blk_alloc ?_ _)); refine blk_far ?_ NB265_278.out _; (with_reducible repeat (first | refine blk_drewN ?_ _ | refine blk_drew ?_ | refine blk_alloc ?_ _)); refine blk_far ?_ NB265_278.out _; (with_reducible repeat (first | refine blk_drewN ?_ _ | refine blk_drew ?_ | refine blk_alloc ?_ _)); exact BK265.out⟩, ⟨by (with_reducible repeat (first | refine blk_drewN ?_ _ | refine blk_drew ?_ | refine blk_alloc ?_ _)); refine blk_put (cs := #[.int .i64 t273, .int .i64 t274, .int .i64 t275, .bool x272003_2]) ?_ 3 _ rfl; (with_reducible repeat (first | refine blk_drewN ?_ _ | refine blk_drew ?_ | refine blk_alloc ?_ _)); refine blk_put (cs := #[.int .i64 t273, .int .i64 t274, .int .i64 x272002_2, .bool x272003_2]) ?_ 2 _ rfl; (with_reducible repeat (first | refine blk_drewN ?_ _ | refine blk_drew ?_ | refine blk_alloc ?_ _)); refine blk_put (cs := #[.int .i64 t273, .int .i64 x272001_2, .int .i64 x272002_2, .bool x272003_2]) ?_ 1 _ rfl; (with_reducible repeat (first | refine blk_drewN ?_ _ | refine blk_drew ?_ | refine blk_alloc ?_ _)); refine blk_put (cs := #[.int .i64 x272000_2, .int .i64 x272001_2, .int .i64 x272002_2, .bool x272003_2]) ?_ 0 _ rfl; (with_reducible repeat (first | refine blk_drewN ?_ _ | refine blk_drew ?_ | refine blk_alloc ?_ _)); refine blk_far ?_ NB271_278.out _; (with_reducible repeat (first | refine blk_drewN ?_ _ | refine blk_drew ?_ | refine blk_alloc ?_ _)); refine blk_far ?_ NB271_278.out _; (with_reducible repeat (first | refine blk_drewN ?_ _ | refine blk_drew ?_ | refine blk_alloc ?_ _)); refine blk_far ?_ NB271_278.out _; (with_reducible repeat (first | refine blk_drewN ?_ _ | refine blk_drew ?_ | refine blk_alloc ?_ _)); refine blk_far ?_ NB271_278.out _; (with_reducible repeat (first | refine blk_drewN ?_ _ | refine blk_drew ?_ | refine blk_alloc ?_ _)); exact BK271.out⟩, ⟨by (with_reducible repeat (first | refine blk_drewN ?_ _ | refine blk_drew ?_ | refine blk_alloc ?_ _)); refine blk_far ?_ NB278_271.out _; (with_reducible repeat (first | refine blk_drewN ?_ _ | refine blk_drew ?_ | refine blk_alloc ?_ _)); refine blk_far ?_ NB278_271.out _; (with_reducible repeat (first | refine blk_drewN ?_ _ | refine blk_drew ?_ | refine blk_alloc ?_ _)); refine blk_far ?_ NB278_271.out _; (with_reducible repeat (first | refine blk_drewN ?_ _ | refine blk_drew ?_ | refine blk_alloc ?_ _)); refine blk_far ?_ NB278_271.out _; (with_reducible repeat (first | refine blk_drewN ?_ _ | refine blk_drew ?_ | refine blk_alloc ?_ _)); refine blk_put (cs := #[.int .i64 t273, .int .i64 t274, .int .i64 t275, .bool false]) ?_ 3 _ rfl; (with_reducible repeat (first | refine blk_drewN ?_ _ | refine blk_drew ?_ | refine blk_alloc ?_ _)); refine blk_put (cs := #[.int .i64 t273, .int .i64 t274, .int .i64 0, .bool false]) ?_ 2 _ rfl; (with_reducible repeat (first | refine blk_drewN ?_ _ | refine blk_drew ?_ | refine blk_alloc ?_ _)); refine blk_put (cs := #[.int .i64 t273, .int .i64 0, .int .i64 0, .bool false]) ?_ 1 _ rfl; (with_reducible repeat (first | refine blk_drewN ?_ _ | refine blk_drew ?_ | refine blk_alloc ?_ _)); refine blk_put (cs := #[.int .i64 0, .int .i64 0, .int .i64 0, .bool false]) ?_ 0 _ rfl; (with_reducible repeat (first | refine blk_drewN ?_ _ | refine blk_drew ?_ | refine blk_alloc ?_ _)); exact BK278.out⟩, ⟨by repeat (first | (with_reducible first | exact HB.out | apply below_alloc | apply pw_below_drewN | apply below_drew1 | refine below_set ?_ GE265.out | refine below_set ?_ GE271.out | refine below_set ?_ GE278.out) | exact HB.out)⟩⟩
                        · rw [if_neg c37] at H
                          have c37b0 : (((rd_T27 l1 x10_2).f0) == 9) = false := beq_eq_false_iff_ne.mpr c37
                          have c37b1 : (((rd_T27 l1 x10_2).f0) != 9) = true := bne_iff_ne.mpr c37
                          have H' := Aside0.mk H
                          clear H
                          go_wp2
                          go_meet
                          case rel => exact ⟨_, (x8_2), (x9_2), (by first | rfl | (simp; done) | (simp [*]; done)), (by first | rfl | (simp; done) | (simp [*]; done)), H', ⟨by have := HJ4.out; have := HK2.out; first | omega | exact Nat.le_refl _⟩, ⟨by (with_reducible repeat (first | refine blk_drewN ?_ _ | refine blk_drew ?_ | refine blk_alloc ?_ _)); refine blk_far ?_ NB265_271.out _; (with_reducible repeat (first | refine blk_drewN ?_ _ | refine blk_drew ?_ | refine blk_alloc ?_ _)); refine blk_far ?_ NB265_271.out _; (with_reducible repeat (first | refine blk_drewN ?_ _ | refine blk_drew ?_ | refine blk_alloc ?_ _)); refine blk_far ?_ NB265_271.out _; (with_reducible repeat (first | refine blk_drewN ?_ _ | refine blk_drew ?_ | refine blk_alloc ?_ _)); refine blk_far ?_ NB265_271.out _; (with_reducible repeat (first | refine blk_drewN ?_ _ | refine blk_drew ?_ | refine blk_alloc ?_ _)); refine blk_far ?_ NB265_278.out _; (with_reducible repeat (first | refine blk_drewN ?_ _ | refine blk_drew ?_ | refine blk_alloc ?_ _)); refine blk_far ?_ NB265_278.out _; (with_reducible repeat (first | refine blk_drewN ?_ _ | refine blk_drew ?_ | refine blk_alloc ?_ _)); refine blk_far ?_ NB265_278.out _; (with_reducible repeat (first | refine blk_drewN ?_ _ | refine blk_drew ?_ | refine blk_alloc ?_ _)); refine blk_far ?_ NB265_278.out _; (with_reducible repeat (first | refine blk_drewN ?_ _ | refine blk_drew ?_ | refine blk_alloc ?_ _)); exact BK265.out⟩, ⟨by (with_reducible repeat (first | refine blk_drewN ?_ _ | refine blk_drew ?_ | refine blk_alloc ?_ _)); refine blk_put (cs := #[.int .i64 t273, .int .i64 t274, .int .i64 t275, .bool x272003_2]) ?_ 3 _ rfl; (with_reducible repeat (first | refine blk_drewN ?_ _ | refine blk_drew ?_ | refine blk_alloc ?_ _)); refine blk_put (cs := #[.int .i64 t273, .int .i64 t274, .int .i64 x272002_2, .bool x272003_2]) ?_ 2 _ rfl; (with_reducible repeat (first | refine blk_drewN ?_ _ | refine blk_drew ?_ | refine blk_alloc ?_ _)); refine blk_put (cs := #[.int .i64 t273, .int .i64 x272001_2, .int .i64 x272002_2, .bool x272003_2]) ?_ 1 _ rfl; (with_reducible repeat (first | refine blk_drewN ?_ _ | refine blk_drew ?_ | refine blk_alloc ?_ _)); refine blk_put (cs := #[.int .i64 x272000_2, .int .i64 x272001_2, .int .i64 x272002_2, .bool x272003_2]) ?_ 0 _ rfl; (with_reducible repeat (first | refine blk_drewN ?_ _ | refine blk_drew ?_ | refine blk_alloc ?_ _)); refine blk_far ?_ NB271_278.out _; (with_reducible repeat (first | refine blk_drewN ?_ _ | refine blk_drew ?_ | refine blk_alloc ?_ _)); refine blk_far ?_ NB271_278.out _; (with_reducible repeat (first | refine blk_drewN ?_ _ | refine blk_drew ?_ | refine blk_alloc ?_ _)); refine blk_far ?_ NB271_278.out _; (with_reducible repeat (first | refine blk_drewN ?_ _ | refine blk_drew ?_ | refine blk_alloc ?_ _)); refine blk_far ?_ NB271_278.out _; (with_reducible repeat (first | refine blk_drewN ?_ _ | refine blk_drew ?_ | refine blk_alloc ?_ _)); exact BK271.out⟩, ⟨by (with_reducible repeat (first | refine blk_drewN ?_ _ | refine blk_drew ?_ | refine blk_alloc ?_ _)); refine blk_far ?_ NB278_271.out _; (with_reducible repeat (first | refine blk_drewN ?_ _ | refine blk_drew ?_ | refine blk_alloc ?_ _)); refine blk_far ?_ NB278_271.out _; (with_reducible repeat (first | refine blk_drewN ?_ _ | refine blk_drew ?_ | refine blk_alloc ?_ _)); refine blk_far ?_ NB278_271.out _; (with_reducible repeat (first | refine blk_drewN ?_ _ | refine blk_drew ?_ | refine blk_alloc ?_ _)); refine blk_far ?_ NB278_271.out _; (with_reducible repeat (first | refine blk_drewN ?_ _ | refine blk_drew ?_ | refine blk_alloc ?_ _)); refine blk_put (cs := #[.int .i64 t273, .int .i64 t274, .int .i64 t275, .bool false]) ?_ 3 _ rfl; (with_reducible repeat (first | refine blk_drewN ?_ _ | refine blk_drew ?_ | refine blk_alloc ?_ _)); refine blk_put (cs := #[.int .i64 t273, .int .i64 t274, .int .i64 0, .bool false]) ?_ 2 _ rfl; (with_reducible repeat (first | refine blk_drewN ?_ _ | refine blk_drew ?_ | refine blk_alloc ?_ _)); refine blk_put (cs := #[.int .i64 t273, .int .i64 0, .int .i64 0, .bool false]) ?_ 1 _ rfl; (with_reducible repeat (first | refine blk_drewN ?_ _ | refine blk_drew ?_ | refine blk_alloc ?_ _)); refine blk_put (cs := #[.int .i64 0, .int .i64 0, .int .i64 0, .bool false]) ?_ 0 _ rfl; (with_reducible repeat (first | refine blk_drewN ?_ _ | refine blk_drew ?_ | refine blk_alloc ?_ _)); exact BK278.out⟩, ⟨by repeat (first | (with_reducible first | exact HB.out | apply below_alloc | apply pw_below_drewN | apply below_drew1 | refine below_set ?_ GE265.out | refine below_set ?_ GE271.out | refine below_set ?_ GE278.out) | exact HB.out)⟩⟩
                  case rest =>
                    clear HC21
                    try clear c1
                    try clear c2
                    try clear p2
                    try clear q2
                    try clear hx2
                    try clear c3
                    try clear p6
                    try clear c10
                    try clear c11
                    try clear c15
                    try clear c17
                    try clear c17b0
                    try clear c18
                    try clear c18b0
                    try clear c20
                    try clear c20b0
                    try clear c20b1
                    try clear p27
                    try clear q27
                    try clear hx27
                    try clear p28
                    try clear q28
                    try clear hx28
                    try clear c30
                    try clear c31
                    try clear c33
                    try clear c35
                    try clear c35b0
                    try clear c35b1
                    try clear c36
                    try clear c36b0
                    try clear c36b1
                    try clear c37
                    try clear c37b0
                    try clear c37b1
                    try clear hcz16_0
                    try clear hcz16_1
                    try clear hcz16_2
                    try clear hcz16_3
                    try clear hcz32_0
                    try clear hcz32_1
                    try clear hcz32_2
                    try clear hcz32_3
                    try clear hcz34_0
                    try clear hcz34_1
                    try clear hcz34_2
                    try clear hcz34_3
                    try clear hcz8_0
                    try clear hcz8_1
                    try clear hcz8_2
                    try clear hcz8_3
                    try clear hcz8_4
                    try clear hcz8_5
                    try clear hcz8_6
                    try clear hcz8_7
                    try clear hfz16_0
                    try clear hfz16_1
                    try clear hfz16_2
                    try clear hfz16_3
                    try clear hfz32_0
                    try clear hfz32_1
                    try clear hfz32_2
                    try clear hfz32_3
                    try clear hfz34_0
                    try clear hfz34_1
                    try clear hfz34_2
                    try clear hfz34_3
                    try clear hfz8_0
                    try clear hfz8_1
                    try clear hfz8_2
                    try clear hfz8_3
                    try clear hfz8_4
                    try clear hfz8_5
                    try clear hfz8_6
                    try clear hfz8_7
                    try clear hx272_0
                    try clear hx272_1
                    try clear hx272_2
                    try clear hx279_0
                    try clear hx279_1
                    try clear hx279_2
                    try clear hx280_0
                    try clear hx280_1
                    try clear hx280_2
                    try clear hx281_0
                    try clear hx281_1
                    try clear hx281_2
                    try clear p2
                    try clear p272
                    try clear p279
                    try clear p280
                    try clear p281
                    try clear q272
                    try clear q279
                    try clear q280
                    try clear q281
                    obtain ⟨kq, x8_20, x9_20, rfl, rfl, HA, HJ20, BK265, BK271, BK278, HB⟩ := hcut
                    cases kq with
                    | zero => exact absurd HA.out (by simp [chargeparklaw12_ChargerLeases.j2])
                    | succ kj20 =>
                      have H := HA.out
                      clear HA
                      simp only [chargeparklaw12_ChargerLeases.j2] at H
                      by_cases c38 : x9_20 > 0
                      · rw [if_pos c38] at H
                        have c38b0 : decide (0 < x9_20) = true := decide_eq_true c38
                        clear c38
                        by_cases c39 : t273 = 4
                        · rw [if_pos c39] at H
                          have c39b0 : (t273 == 4) = true := beq_iff_eq.mpr c39
                          have c39b1 : (t273 != 4) = false := bne_eq_false_iff_eq.mpr c39
                          clear c39
                          by_cases c40 : x5_2 = true
                          · subst c40
                            have H1 : ((charger_Allowed.f a0_0 a0_1 a0_2 a0_3 a0_4 a0_5 a0_6 a0_7 t273 t274 t275 t276).bind fun t282 => (chargeparklaw12_ChargerLeases.l0 kj20 l1 (t282 == x8_20) x8_20 x9_20 (wrap64 (x10_2 + 1)) a0_0 a0_1 a0_2 a0_3 a0_4 a0_5 a0_6 a0_7 t273 t274 t275 t276)) = some r := by rw [if_pos rfl] at H; exact H
                            clear H
                            have H := H1
                            clear H1
                            replace H := Option.bind_eq_some_iff.mp H
                            obtain ⟨t282, A410, H⟩ := H
                            replace H : (chargeparklaw12_ChargerLeases.l0 kj20 l1 (t282 == x8_20) x8_20 x9_20 (wrap64 (x10_2 + 1)) a0_0 a0_1 a0_2 a0_3 a0_4 a0_5 a0_6 a0_7 t273 t274 t275 t276) = some r := H
                            have A41 := Aside0.mk A410
                            clear A410
                            have H' := Aside0.mk H
                            clear H
                            have hnb42 := NB265_271.out
                            have hnc42 := NB271_265.out
                            have hnb43 := NB265_278.out
                            have hnc43 := NB278_265.out
                            have hcz44_0 : wc.cell? ⟨gb265, 0, none⟩ = some (.string a0_0) := (blk_cell BK265.out 0).trans rfl
                            have hcz44_1 : wc.cell? ⟨gb265, 1, none⟩ = some (.int .i64 a0_1) := (blk_cell BK265.out 1).trans rfl
                            have hcz44_2 : wc.cell? ⟨gb265, 2, none⟩ = some (.int .i64 a0_2) := (blk_cell BK265.out 2).trans rfl
                            have hcz44_3 : wc.cell? ⟨gb265, 3, none⟩ = some (.int .i64 a0_3) := (blk_cell BK265.out 3).trans rfl
                            have hcz44_4 : wc.cell? ⟨gb265, 4, none⟩ = some (.int .i64 a0_4) := (blk_cell BK265.out 4).trans rfl
                            have hcz44_5 : wc.cell? ⟨gb265, 5, none⟩ = some (.int .i64 a0_5) := (blk_cell BK265.out 5).trans rfl
                            have hcz44_6 : wc.cell? ⟨gb265, 6, none⟩ = some (.int .i64 a0_6) := (blk_cell BK265.out 6).trans rfl
                            have hcz44_7 : wc.cell? ⟨gb265, 7, none⟩ = some (.int .i64 a0_7) := (blk_cell BK265.out 7).trans rfl
                            have hfz44_0 := blk_frozen BK265.out 0
                            have hfz44_1 := blk_frozen BK265.out 1
                            have hfz44_2 := blk_frozen BK265.out 2
                            have hfz44_3 := blk_frozen BK265.out 3
                            have hfz44_4 := blk_frozen BK265.out 4
                            have hfz44_5 := blk_frozen BK265.out 5
                            have hfz44_6 := blk_frozen BK265.out 6
                            have hfz44_7 := blk_frozen BK265.out 7
                            have hnb45 := NB271_278.out
                            have hnc45 := NB278_271.out
                            have hcz46_0 : wc.cell? ⟨gb271, 0, none⟩ = some (.int .i64 t273) := (blk_cell BK271.out 0).trans rfl
                            have hcz46_1 : wc.cell? ⟨gb271, 1, none⟩ = some (.int .i64 t274) := (blk_cell BK271.out 1).trans rfl
                            have hcz46_2 : wc.cell? ⟨gb271, 2, none⟩ = some (.int .i64 t275) := (blk_cell BK271.out 2).trans rfl
                            have hcz46_3 : wc.cell? ⟨gb271, 3, none⟩ = some (.bool t276) := (blk_cell BK271.out 3).trans rfl
                            have hfz46_0 := blk_frozen BK271.out 0
                            have hfz46_1 := blk_frozen BK271.out 1
                            have hfz46_2 := blk_frozen BK271.out 2
                            have hfz46_3 := blk_frozen BK271.out 3
                            go_wp2_with (first | (go_at_call 15; (with_reducible refine (charger_Allowed.calls a0_0 a0_1 a0_2 a0_3 a0_4 a0_5 a0_6 a0_7 t273 t274 t275 t276 t282 _ A41.out).mono ?_); rintro e w47 ⟨rfl, hb⟩; have n0_ := Aside0.mk (blk_below (g := gb265) (o := .cells #[.string a0_0, .int .i64 a0_1, .int .i64 a0_2, .int .i64 a0_3, .int .i64 a0_4, .int .i64 a0_5, .int .i64 a0_6, .int .i64 a0_7] 23 (0, 0)) (by (with_reducible repeat (first | refine blk_drewN ?_ _ | refine blk_drew ?_ | refine blk_alloc ?_ _)); exact BK265.out) hb); have n1_ := Aside0.mk (blk_below (g := gb271) (o := .cells #[.int .i64 t273, .int .i64 t274, .int .i64 t275, .bool t276] 25 (0, 0)) (by (with_reducible repeat (first | refine blk_drewN ?_ _ | refine blk_drew ?_ | refine blk_alloc ?_ _)); exact BK271.out) hb); have n2_ := Aside0.mk (blk_below (g := gb278) (o := .cells #[.int .i64 t273, .int .i64 t274, .int .i64 t275, .bool t276] 25 (0, 0)) (by (with_reducible repeat (first | refine blk_drewN ?_ _ | refine blk_drew ?_ | refine blk_alloc ?_ _)); exact BK278.out) hb); have n3_ := Aside0.mk (below_step (by repeat (first | (with_reducible first | exact HB.out | apply below_alloc | apply pw_below_drewN | apply below_drew1 | refine below_set ?_ GE265.out | refine below_set ?_ GE271.out | refine below_set ?_ GE278.out) | exact HB.out)) hb); clear BK265; clear BK271; clear BK278; clear HB; have BK265 := n0_; have BK271 := n1_; have BK278 := n2_; have HB := n3_; clear n0_ n1_ n2_ n3_; (try clear hb); (try clear hb2); (try clear hk); (try clear hi)))
                            go_roundg kj20
                            case measure => have := HJ4.out; have := HK2.out; have := HJ20.out; omega
                            case rel => exact ⟨((t282 == x8_20)), (x8_20), (x9_20), (wrap64 (x10_2 + 1)), (t273), (t274), (t275), (t276), (by first | rfl | (simp; done) | (simp [*]; done)), (by first | rfl | (simp; done) | (simp [*]; done)), (by first | rfl | (simp; done) | (simp [*]; done)), (by first | rfl | (simp; done) | (simp [*]; done)), H', ⟨by have := HJ4.out; have := HK2.out; have := HJ20.out; omega⟩, ⟨by (with_reducible repeat (first | refine blk_drewN ?_ _ | refine blk_drew ?_ | refine blk_alloc ?_ _)); exact BK265.out⟩, ⟨by (with_reducible repeat (first | refine blk_drewN ?_ _ | refine blk_drew ?_ | refine blk_alloc ?_ _)); exact BK271.out⟩, ⟨by repeat (first | (with_reducible first | exact HB.out | apply below_alloc | apply pw_below_drewN | apply below_drew1 | refine below_set ?_ GE265.out | refine below_set ?_ GE271.out | refine below_set ?_ GE278.out) | exact HB.out)⟩⟩
                          · replace c40 := Bool.eq_false_iff.mpr c40
                            subst c40
                            have H1 : (chargeparklaw12_ChargerLeases.l0 kj20 l1 false x8_20 x9_20 (wrap64 (x10_2 + 1)) a0_0 a0_1 a0_2 a0_3 a0_4 a0_5 a0_6 a0_7 t273 t274 t275 t276) = some r := by rw [if_neg (show ¬ (false = true) by decide)] at H; exact H
                            clear H
                            have H := H1
                            clear H1
                            have H' := Aside0.mk H
                            clear H
                            have hnb48 := NB265_271.out
                            have hnc48 := NB271_265.out
                            have hnb49 := NB265_278.out
                            have hnc49 := NB278_265.out
                            have hcz50_0 : wc.cell? ⟨gb265, 0, none⟩ = some (.string a0_0) := (blk_cell BK265.out 0).trans rfl
                            have hcz50_1 : wc.cell? ⟨gb265, 1, none⟩ = some (.int .i64 a0_1) := (blk_cell BK265.out 1).trans rfl
                            have hcz50_2 : wc.cell? ⟨gb265, 2, none⟩ = some (.int .i64 a0_2) := (blk_cell BK265.out 2).trans rfl
                            have hcz50_3 : wc.cell? ⟨gb265, 3, none⟩ = some (.int .i64 a0_3) := (blk_cell BK265.out 3).trans rfl
                            have hcz50_4 : wc.cell? ⟨gb265, 4, none⟩ = some (.int .i64 a0_4) := (blk_cell BK265.out 4).trans rfl
                            have hcz50_5 : wc.cell? ⟨gb265, 5, none⟩ = some (.int .i64 a0_5) := (blk_cell BK265.out 5).trans rfl
                            have hcz50_6 : wc.cell? ⟨gb265, 6, none⟩ = some (.int .i64 a0_6) := (blk_cell BK265.out 6).trans rfl
                            have hcz50_7 : wc.cell? ⟨gb265, 7, none⟩ = some (.int .i64 a0_7) := (blk_cell BK265.out 7).trans rfl
                            have hfz50_0 := blk_frozen BK265.out 0
                            have hfz50_1 := blk_frozen BK265.out 1
                            have hfz50_2 := blk_frozen BK265.out 2
                            have hfz50_3 := blk_frozen BK265.out 3
                            have hfz50_4 := blk_frozen BK265.out 4
                            have hfz50_5 := blk_frozen BK265.out 5
                            have hfz50_6 := blk_frozen BK265.out 6
                            have hfz50_7 := blk_frozen BK265.out 7
                            have hnb51 := NB271_278.out
                            have hnc51 := NB278_271.out
                            have hcz52_0 : wc.cell? ⟨gb271, 0, none⟩ = some (.int .i64 t273) := (blk_cell BK271.out 0).trans rfl
                            have hcz52_1 : wc.cell? ⟨gb271, 1, none⟩ = some (.int .i64 t274) := (blk_cell BK271.out 1).trans rfl
                            have hcz52_2 : wc.cell? ⟨gb271, 2, none⟩ = some (.int .i64 t275) := (blk_cell BK271.out 2).trans rfl
                            have hcz52_3 : wc.cell? ⟨gb271, 3, none⟩ = some (.bool t276) := (blk_cell BK271.out 3).trans rfl
                            have hfz52_0 := blk_frozen BK271.out 0
                            have hfz52_1 := blk_frozen BK271.out 1
                            have hfz52_2 := blk_frozen BK271.out 2
                            have hfz52_3 := blk_frozen BK271.out 3
                            go_wp2
                            go_roundg kj20
                            case measure => have := HJ4.out; have := HK2.out; have := HJ20.out; omega
                            case rel => exact ⟨(false), (x8_20), (x9_20), (wrap64 (x10_2 + 1)), (t273), (t274), (t275), (t276), (by first | rfl | (simp; done) | (simp [*]; done)), (by first | rfl | (simp; done) | (simp [*]; done)), (by first | rfl | (simp; done) | (simp [*]; done)), (by first | rfl | (simp; done) | (simp [*]; done)), H', ⟨by have := HJ4.out; have := HK2.out; have := HJ20.out; omega⟩, ⟨by (with_reducible repeat (first | refine blk_drewN ?_ _ | refine blk_drew ?_ | refine blk_alloc ?_ _)); exact BK265.out⟩, ⟨by (with_reducible repeat (first | refine blk_drewN ?_ _ | refine blk_drew ?_ | refine blk_alloc ?_ _)); exact BK271.out⟩, ⟨by repeat (first | (with_reducible first | exact HB.out | apply below_alloc | apply pw_below_drewN | apply below_drew1 | refine below_set ?_ GE265.out | refine below_set ?_ GE271.out | refine below_set ?_ GE278.out) | exact HB.out)⟩⟩
                        · rw [if_neg c39] at H
                          have c39b0 : (t273 == 4) = false := beq_eq_false_iff_ne.mpr c39
                          have c39b1 : (t273 != 4) = true := bne_iff_ne.mpr c39
                          have H' := Aside0.mk H
                          clear H
                          have hnb53 := NB265_271.out
                          have hnc53 := NB271_265.out
                          have hnb54 := NB265_278.out
                          have hnc54 := NB278_265.out
                          have hcz55_0 : wc.cell? ⟨gb265, 0, none⟩ = some (.string a0_0) := (blk_cell BK265.out 0).trans rfl
                          have hcz55_1 : wc.cell? ⟨gb265, 1, none⟩ = some (.int .i64 a0_1) := (blk_cell BK265.out 1).trans rfl
                          have hcz55_2 : wc.cell? ⟨gb265, 2, none⟩ = some (.int .i64 a0_2) := (blk_cell BK265.out 2).trans rfl
                          have hcz55_3 : wc.cell? ⟨gb265, 3, none⟩ = some (.int .i64 a0_3) := (blk_cell BK265.out 3).trans rfl
                          have hcz55_4 : wc.cell? ⟨gb265, 4, none⟩ = some (.int .i64 a0_4) := (blk_cell BK265.out 4).trans rfl
                          have hcz55_5 : wc.cell? ⟨gb265, 5, none⟩ = some (.int .i64 a0_5) := (blk_cell BK265.out 5).trans rfl
                          have hcz55_6 : wc.cell? ⟨gb265, 6, none⟩ = some (.int .i64 a0_6) := (blk_cell BK265.out 6).trans rfl
                          have hcz55_7 : wc.cell? ⟨gb265, 7, none⟩ = some (.int .i64 a0_7) := (blk_cell BK265.out 7).trans rfl
                          have hfz55_0 := blk_frozen BK265.out 0
                          have hfz55_1 := blk_frozen BK265.out 1
                          have hfz55_2 := blk_frozen BK265.out 2
                          have hfz55_3 := blk_frozen BK265.out 3
                          have hfz55_4 := blk_frozen BK265.out 4
                          have hfz55_5 := blk_frozen BK265.out 5
                          have hfz55_6 := blk_frozen BK265.out 6
                          have hfz55_7 := blk_frozen BK265.out 7
                          have hnb56 := NB271_278.out
                          have hnc56 := NB278_271.out
                          have hcz57_0 : wc.cell? ⟨gb271, 0, none⟩ = some (.int .i64 t273) := (blk_cell BK271.out 0).trans rfl
                          have hcz57_1 : wc.cell? ⟨gb271, 1, none⟩ = some (.int .i64 t274) := (blk_cell BK271.out 1).trans rfl
                          have hcz57_2 : wc.cell? ⟨gb271, 2, none⟩ = some (.int .i64 t275) := (blk_cell BK271.out 2).trans rfl
                          have hcz57_3 : wc.cell? ⟨gb271, 3, none⟩ = some (.bool t276) := (blk_cell BK271.out 3).trans rfl
                          have hfz57_0 := blk_frozen BK271.out 0
                          have hfz57_1 := blk_frozen BK271.out 1
                          have hfz57_2 := blk_frozen BK271.out 2
                          have hfz57_3 := blk_frozen BK271.out 3
                          go_wp2
                          go_roundg kj20
                          case measure => have := HJ4.out; have := HK2.out; have := HJ20.out; omega
                          case rel => exact ⟨(x5_2), (x8_20), (x9_20), (wrap64 (x10_2 + 1)), (t273), (t274), (t275), (t276), (by first | rfl | (simp; done) | (simp [*]; done)), (by first | rfl | (simp; done) | (simp [*]; done)), (by first | rfl | (simp; done) | (simp [*]; done)), (by first | rfl | (simp; done) | (simp [*]; done)), H', ⟨by have := HJ4.out; have := HK2.out; have := HJ20.out; omega⟩, ⟨by (with_reducible repeat (first | refine blk_drewN ?_ _ | refine blk_drew ?_ | refine blk_alloc ?_ _)); exact BK265.out⟩, ⟨by (with_reducible repeat (first | refine blk_drewN ?_ _ | refine blk_drew ?_ | refine blk_alloc ?_ _)); exact BK271.out⟩, ⟨by repeat (first | (with_reducible first | exact HB.out | apply below_alloc | apply pw_below_drewN | apply below_drew1 | refine below_set ?_ GE265.out | refine below_set ?_ GE271.out | refine below_set ?_ GE278.out) | exact HB.out)⟩⟩
                      · rw [if_neg c38] at H
                        have c38b0 : decide (0 < x9_20) = false := decide_eq_false c38
                        clear c38
                        by_cases c58 : t273 = 4
                        · rw [if_pos c58] at H
                          have c58b0 : (t273 == 4) = true := beq_iff_eq.mpr c58
                          have c58b1 : (t273 != 4) = false := bne_eq_false_iff_eq.mpr c58
                          clear c58
                          by_cases c59 : x5_2 = true
                          · subst c59
                            have H1 : ((charger_Allowed.f a0_0 a0_1 a0_2 a0_3 a0_4 a0_5 a0_6 a0_7 t273 t274 t275 t276).bind fun t283 => (chargeparklaw12_ChargerLeases.l0 kj20 l1 (t283 == a0_6) x8_20 x9_20 (wrap64 (x10_2 + 1)) a0_0 a0_1 a0_2 a0_3 a0_4 a0_5 a0_6 a0_7 t273 t274 t275 t276)) = some r := by rw [if_pos rfl] at H; exact H
                            clear H
                            have H := H1
                            clear H1
                            replace H := Option.bind_eq_some_iff.mp H
                            obtain ⟨t283, A600, H⟩ := H
                            replace H : (chargeparklaw12_ChargerLeases.l0 kj20 l1 (t283 == a0_6) x8_20 x9_20 (wrap64 (x10_2 + 1)) a0_0 a0_1 a0_2 a0_3 a0_4 a0_5 a0_6 a0_7 t273 t274 t275 t276) = some r := H
                            have A60 := Aside0.mk A600
                            clear A600
                            have H' := Aside0.mk H
                            clear H
                            have hnb61 := NB265_271.out
                            have hnc61 := NB271_265.out
                            have hnb62 := NB265_278.out
                            have hnc62 := NB278_265.out
                            have hcz63_0 : wc.cell? ⟨gb265, 0, none⟩ = some (.string a0_0) := (blk_cell BK265.out 0).trans rfl
                            have hcz63_1 : wc.cell? ⟨gb265, 1, none⟩ = some (.int .i64 a0_1) := (blk_cell BK265.out 1).trans rfl
                            have hcz63_2 : wc.cell? ⟨gb265, 2, none⟩ = some (.int .i64 a0_2) := (blk_cell BK265.out 2).trans rfl
                            have hcz63_3 : wc.cell? ⟨gb265, 3, none⟩ = some (.int .i64 a0_3) := (blk_cell BK265.out 3).trans rfl
                            have hcz63_4 : wc.cell? ⟨gb265, 4, none⟩ = some (.int .i64 a0_4) := (blk_cell BK265.out 4).trans rfl
                            have hcz63_5 : wc.cell? ⟨gb265, 5, none⟩ = some (.int .i64 a0_5) := (blk_cell BK265.out 5).trans rfl
                            have hcz63_6 : wc.cell? ⟨gb265, 6, none⟩ = some (.int .i64 a0_6) := (blk_cell BK265.out 6).trans rfl
                            have hcz63_7 : wc.cell? ⟨gb265, 7, none⟩ = some (.int .i64 a0_7) := (blk_cell BK265.out 7).trans rfl
                            have hfz63_0 := blk_frozen BK265.out 0
                            have hfz63_1 := blk_frozen BK265.out 1
                            have hfz63_2 := blk_frozen BK265.out 2
                            have hfz63_3 := blk_frozen BK265.out 3
                            have hfz63_4 := blk_frozen BK265.out 4
                            have hfz63_5 := blk_frozen BK265.out 5
                            have hfz63_6 := blk_frozen BK265.out 6
                            have hfz63_7 := blk_frozen BK265.out 7
                            have hnb64 := NB271_278.out
                            have hnc64 := NB278_271.out
                            have hcz65_0 : wc.cell? ⟨gb271, 0, none⟩ = some (.int .i64 t273) := (blk_cell BK271.out 0).trans rfl
                            have hcz65_1 : wc.cell? ⟨gb271, 1, none⟩ = some (.int .i64 t274) := (blk_cell BK271.out 1).trans rfl
                            have hcz65_2 : wc.cell? ⟨gb271, 2, none⟩ = some (.int .i64 t275) := (blk_cell BK271.out 2).trans rfl
                            have hcz65_3 : wc.cell? ⟨gb271, 3, none⟩ = some (.bool t276) := (blk_cell BK271.out 3).trans rfl
                            have hfz65_0 := blk_frozen BK271.out 0
                            have hfz65_1 := blk_frozen BK271.out 1
                            have hfz65_2 := blk_frozen BK271.out 2
                            have hfz65_3 := blk_frozen BK271.out 3
                            go_wp2_with (first | (go_at_call 15; (with_reducible refine (charger_Allowed.calls a0_0 a0_1 a0_2 a0_3 a0_4 a0_5 a0_6 a0_7 t273 t274 t275 t276 t283 _ A60.out).mono ?_); rintro e w66 ⟨rfl, hb⟩; have n0_ := Aside0.mk (blk_below (g := gb265) (o := .cells #[.string a0_0, .int .i64 a0_1, .int .i64 a0_2, .int .i64 a0_3, .int .i64 a0_4, .int .i64 a0_5, .int .i64 a0_6, .int .i64 a0_7] 23 (0, 0)) (by (with_reducible repeat (first | refine blk_drewN ?_ _ | refine blk_drew ?_ | refine blk_alloc ?_ _)); exact BK265.out) hb); have n1_ := Aside0.mk (blk_below (g := gb271) (o := .cells #[.int .i64 t273, .int .i64 t274, .int .i64 t275, .bool t276] 25 (0, 0)) (by (with_reducible repeat (first | refine blk_drewN ?_ _ | refine blk_drew ?_ | refine blk_alloc ?_ _)); exact BK271.out) hb); have n2_ := Aside0.mk (blk_below (g := gb278) (o := .cells #[.int .i64 t273, .int .i64 t274, .int .i64 t275, .bool t276] 25 (0, 0)) (by (with_reducible repeat (first | refine blk_drewN ?_ _ | refine blk_drew ?_ | refine blk_alloc ?_ _)); exact BK278.out) hb); have n3_ := Aside0.mk (below_step (by repeat (first | (with_reducible first | exact HB.out | apply below_alloc | apply pw_below_drewN | apply below_drew1 | refine below_set ?_ GE265.out | refine below_set ?_ GE271.out | refine below_set ?_ GE278.out) | exact HB.out)) hb); clear BK265; clear BK271; clear BK278; clear HB; have BK265 := n0_; have BK271 := n1_; have BK278 := n2_; have HB := n3_; clear n0_ n1_ n2_ n3_; (try clear hb); (try clear hb2); (try clear hk); (try clear hi)))
                            go_roundg kj20
                            case measure => have := HJ4.out; have := HK2.out; have := HJ20.out; omega
                            case rel => exact ⟨((t283 == a0_6)), (x8_20), (x9_20), (wrap64 (x10_2 + 1)), (t273), (t274), (t275), (t276), (by first | rfl | (simp; done) | (simp [*]; done)), (by first | rfl | (simp; done) | (simp [*]; done)), (by first | rfl | (simp; done) | (simp [*]; done)), (by first | rfl | (simp; done) | (simp [*]; done)), H', ⟨by have := HJ4.out; have := HK2.out; have := HJ20.out; omega⟩, ⟨by (with_reducible repeat (first | refine blk_drewN ?_ _ | refine blk_drew ?_ | refine blk_alloc ?_ _)); exact BK265.out⟩, ⟨by (with_reducible repeat (first | refine blk_drewN ?_ _ | refine blk_drew ?_ | refine blk_alloc ?_ _)); exact BK271.out⟩, ⟨by repeat (first | (with_reducible first | exact HB.out | apply below_alloc | apply pw_below_drewN | apply below_drew1 | refine below_set ?_ GE265.out | refine below_set ?_ GE271.out | refine below_set ?_ GE278.out) | exact HB.out)⟩⟩
                          · replace c59 := Bool.eq_false_iff.mpr c59
                            subst c59
                            have H1 : (chargeparklaw12_ChargerLeases.l0 kj20 l1 false x8_20 x9_20 (wrap64 (x10_2 + 1)) a0_0 a0_1 a0_2 a0_3 a0_4 a0_5 a0_6 a0_7 t273 t274 t275 t276) = some r := by rw [if_neg (show ¬ (false = true) by decide)] at H; exact H
                            clear H
                            have H := H1
                            clear H1
                            have H' := Aside0.mk H
                            clear H
                            have hnb67 := NB265_271.out
                            have hnc67 := NB271_265.out
                            have hnb68 := NB265_278.out
                            have hnc68 := NB278_265.out
                            have hcz69_0 : wc.cell? ⟨gb265, 0, none⟩ = some (.string a0_0) := (blk_cell BK265.out 0).trans rfl
                            have hcz69_1 : wc.cell? ⟨gb265, 1, none⟩ = some (.int .i64 a0_1) := (blk_cell BK265.out 1).trans rfl
                            have hcz69_2 : wc.cell? ⟨gb265, 2, none⟩ = some (.int .i64 a0_2) := (blk_cell BK265.out 2).trans rfl
                            have hcz69_3 : wc.cell? ⟨gb265, 3, none⟩ = some (.int .i64 a0_3) := (blk_cell BK265.out 3).trans rfl
                            have hcz69_4 : wc.cell? ⟨gb265, 4, none⟩ = some (.int .i64 a0_4) := (blk_cell BK265.out 4).trans rfl
                            have hcz69_5 : wc.cell? ⟨gb265, 5, none⟩ = some (.int .i64 a0_5) := (blk_cell BK265.out 5).trans rfl
                            have hcz69_6 : wc.cell? ⟨gb265, 6, none⟩ = some (.int .i64 a0_6) := (blk_cell BK265.out 6).trans rfl
                            have hcz69_7 : wc.cell? ⟨gb265, 7, none⟩ = some (.int .i64 a0_7) := (blk_cell BK265.out 7).trans rfl
                            have hfz69_0 := blk_frozen BK265.out 0
                            have hfz69_1 := blk_frozen BK265.out 1
                            have hfz69_2 := blk_frozen BK265.out 2
                            have hfz69_3 := blk_frozen BK265.out 3
                            have hfz69_4 := blk_frozen BK265.out 4
                            have hfz69_5 := blk_frozen BK265.out 5
                            have hfz69_6 := blk_frozen BK265.out 6
                            have hfz69_7 := blk_frozen BK265.out 7
                            have hnb70 := NB271_278.out
                            have hnc70 := NB278_271.out
                            have hcz71_0 : wc.cell? ⟨gb271, 0, none⟩ = some (.int .i64 t273) := (blk_cell BK271.out 0).trans rfl
                            have hcz71_1 : wc.cell? ⟨gb271, 1, none⟩ = some (.int .i64 t274) := (blk_cell BK271.out 1).trans rfl
                            have hcz71_2 : wc.cell? ⟨gb271, 2, none⟩ = some (.int .i64 t275) := (blk_cell BK271.out 2).trans rfl
                            have hcz71_3 : wc.cell? ⟨gb271, 3, none⟩ = some (.bool t276) := (blk_cell BK271.out 3).trans rfl
                            have hfz71_0 := blk_frozen BK271.out 0
                            have hfz71_1 := blk_frozen BK271.out 1
                            have hfz71_2 := blk_frozen BK271.out 2
                            have hfz71_3 := blk_frozen BK271.out 3
                            go_wp2
                            go_roundg kj20
                            case measure => have := HJ4.out; have := HK2.out; have := HJ20.out; omega
                            case rel => exact ⟨(false), (x8_20), (x9_20), (wrap64 (x10_2 + 1)), (t273), (t274), (t275), (t276), (by first | rfl | (simp; done) | (simp [*]; done)), (by first | rfl | (simp; done) | (simp [*]; done)), (by first | rfl | (simp; done) | (simp [*]; done)), (by first | rfl | (simp; done) | (simp [*]; done)), H', ⟨by have := HJ4.out; have := HK2.out; have := HJ20.out; omega⟩, ⟨by (with_reducible repeat (first | refine blk_drewN ?_ _ | refine blk_drew ?_ | refine blk_alloc ?_ _)); exact BK265.out⟩, ⟨by (with_reducible repeat (first | refine blk_drewN ?_ _ | refine blk_drew ?_ | refine blk_alloc ?_ _)); exact BK271.out⟩, ⟨by repeat (first | (with_reducible first | exact HB.out | apply below_alloc | apply pw_below_drewN | apply below_drew1 | refine below_set ?_ GE265.out | refine below_set ?_ GE271.out | refine below_set ?_ GE278.out) | exact HB.out)⟩⟩
                        · rw [if_neg c58] at H
                          have c58b0 : (t273 == 4) = false := beq_eq_false_iff_ne.mpr c58
                          have c58b1 : (t273 != 4) = true := bne_iff_ne.mpr c58
                          have H' := Aside0.mk H
                          clear H
                          have hnb72 := NB265_271.out
                          have hnc72 := NB271_265.out
                          have hnb73 := NB265_278.out
                          have hnc73 := NB278_265.out
                          have hcz74_0 : wc.cell? ⟨gb265, 0, none⟩ = some (.string a0_0) := (blk_cell BK265.out 0).trans rfl
                          have hcz74_1 : wc.cell? ⟨gb265, 1, none⟩ = some (.int .i64 a0_1) := (blk_cell BK265.out 1).trans rfl
                          have hcz74_2 : wc.cell? ⟨gb265, 2, none⟩ = some (.int .i64 a0_2) := (blk_cell BK265.out 2).trans rfl
                          have hcz74_3 : wc.cell? ⟨gb265, 3, none⟩ = some (.int .i64 a0_3) := (blk_cell BK265.out 3).trans rfl
                          have hcz74_4 : wc.cell? ⟨gb265, 4, none⟩ = some (.int .i64 a0_4) := (blk_cell BK265.out 4).trans rfl
                          have hcz74_5 : wc.cell? ⟨gb265, 5, none⟩ = some (.int .i64 a0_5) := (blk_cell BK265.out 5).trans rfl
                          have hcz74_6 : wc.cell? ⟨gb265, 6, none⟩ = some (.int .i64 a0_6) := (blk_cell BK265.out 6).trans rfl
                          have hcz74_7 : wc.cell? ⟨gb265, 7, none⟩ = some (.int .i64 a0_7) := (blk_cell BK265.out 7).trans rfl
                          have hfz74_0 := blk_frozen BK265.out 0
                          have hfz74_1 := blk_frozen BK265.out 1
                          have hfz74_2 := blk_frozen BK265.out 2
                          have hfz74_3 := blk_frozen BK265.out 3
                          have hfz74_4 := blk_frozen BK265.out 4
                          have hfz74_5 := blk_frozen BK265.out 5
                          have hfz74_6 := blk_frozen BK265.out 6
                          have hfz74_7 := blk_frozen BK265.out 7
                          have hnb75 := NB271_278.out
                          have hnc75 := NB278_271.out
                          have hcz76_0 : wc.cell? ⟨gb271, 0, none⟩ = some (.int .i64 t273) := (blk_cell BK271.out 0).trans rfl
                          have hcz76_1 : wc.cell? ⟨gb271, 1, none⟩ = some (.int .i64 t274) := (blk_cell BK271.out 1).trans rfl
                          have hcz76_2 : wc.cell? ⟨gb271, 2, none⟩ = some (.int .i64 t275) := (blk_cell BK271.out 2).trans rfl
                          have hcz76_3 : wc.cell? ⟨gb271, 3, none⟩ = some (.bool t276) := (blk_cell BK271.out 3).trans rfl
                          have hfz76_0 := blk_frozen BK271.out 0
                          have hfz76_1 := blk_frozen BK271.out 1
                          have hfz76_2 := blk_frozen BK271.out 2
                          have hfz76_3 := blk_frozen BK271.out 3
                          go_wp2
                          go_roundg kj20
                          case measure => have := HJ4.out; have := HK2.out; have := HJ20.out; omega
                          case rel => exact ⟨(x5_2), (x8_20), (x9_20), (wrap64 (x10_2 + 1)), (t273), (t274), (t275), (t276), (by first | rfl | (simp; done) | (simp [*]; done)), (by first | rfl | (simp; done) | (simp [*]; done)), (by first | rfl | (simp; done) | (simp [*]; done)), (by first | rfl | (simp; done) | (simp [*]; done)), H', ⟨by have := HJ4.out; have := HK2.out; have := HJ20.out; omega⟩, ⟨by (with_reducible repeat (first | refine blk_drewN ?_ _ | refine blk_drew ?_ | refine blk_alloc ?_ _)); exact BK265.out⟩, ⟨by (with_reducible repeat (first | refine blk_drewN ?_ _ | refine blk_drew ?_ | refine blk_alloc ?_ _)); exact BK271.out⟩, ⟨by repeat (first | (with_reducible first | exact HB.out | apply below_alloc | apply pw_below_drewN | apply below_drew1 | refine below_set ?_ GE265.out | refine below_set ?_ GE271.out | refine below_set ?_ GE278.out) | exact HB.out)⟩⟩
                · rw [if_neg c20] at H
                  have c20b0 : (t277 == 0) = false := beq_eq_false_iff_ne.mpr c20
                  have c20b1 : (t277 != 0) = true := bne_iff_ne.mpr c20
                  have H' := Aside0.mk H
                  clear H
                  try go_wp2
                  have n0_ := Aside0.mk (blk_drew BK265.out)
                  have n1_ := Aside0.mk (blk_drew BK271.out)
                  have n2_ := Aside0.mk (below_drew1 HB.out)
                  clear BK265
                  clear BK271
                  clear HB
                  have BK265 := n0_
                  have BK271 := n1_
                  have HB := n2_
                  clear n0_ n1_ n2_
                  have p272 : 0 ≤ (x10_2 : Int) := of_decide_eq_true (by first | (with_reducible assumption) | assumption)
                  have q272 : x10_2 < (l1.length : Int) := of_decide_eq_true (by first | (with_reducible assumption) | assumption)
                  obtain ⟨ad272, e272, hx272_0, hx272_1, hx272_2⟩ := at_T27 HR1.out x10_2 p272 q272
                  have hw272_2 := hx272_2
                  have hw272_1 := hx272_1
                  have hw272_0 := hx272_0
                  cases e272
                  replace hx272_0 := (HB.out.cell (World.block_lt_of_cell? w _ hx272_0)).trans hx272_0
                  replace hx272_1 := (HB.out.cell (World.block_lt_of_cell? w _ hx272_1)).trans hx272_1
                  replace hx272_2 := (HB.out.cell (World.block_lt_of_cell? w _ hx272_2)).trans hx272_2
                  replace p272 := eq_true p272
                  replace q272 := eq_true q272
                  refine start_ (n := 13) (S := fun w' => w'.cell? ⟨gb265, 0, none⟩ = some (.string a0_0) ∧ w'.cell? ⟨gb265, 1, none⟩ = some (.int .i64 a0_1) ∧ w'.cell? ⟨gb265, 2, none⟩ = some (.int .i64 a0_2) ∧ w'.cell? ⟨gb265, 3, none⟩ = some (.int .i64 a0_3) ∧ w'.cell? ⟨gb265, 4, none⟩ = some (.int .i64 a0_4) ∧ w'.cell? ⟨gb265, 5, none⟩ = some (.int .i64 a0_5) ∧ w'.cell? ⟨gb265, 6, none⟩ = some (.int .i64 a0_6) ∧ w'.cell? ⟨gb265, 7, none⟩ = some (.int .i64 a0_7) ∧ w'.cell? ⟨gb271, 0, none⟩ = some (.int .i64 x272000_2) ∧ w'.cell? ⟨gb271, 1, none⟩ = some (.int .i64 x272001_2) ∧ w'.cell? ⟨gb271, 2, none⟩ = some (.int .i64 x272002_2) ∧ w'.cell? ⟨gb271, 3, none⟩ = some (.bool x272003_2) ∧ w'.cell? (ad272.add ((x10_2).toNat * 3)) = some (.int .i64 ((rd_T27 l1 x10_2).f0)) ∧ w'.cell? ⟨(ad272.add ((x10_2).toNat * 3)).block, (ad272.add ((x10_2).toNat * 3)).off + 1, none⟩ = some (.int .i64 ((rd_T27 l1 x10_2).f1)) ∧ w'.cell? ⟨(ad272.add ((x10_2).toNat * 3)).block, (ad272.add ((x10_2).toNat * 3)).off + 2, none⟩ = some (.int .i64 ((rd_T27 l1 x10_2).f2))) (ds := []) #[false, false, false, false, false, false, false, false, false, false, false, false, false] (by kernel_rfl) rfl rfl ⟨(blk_cell BK265.out 0).trans rfl, (blk_cell BK265.out 1).trans rfl, (blk_cell BK265.out 2).trans rfl, (blk_cell BK265.out 3).trans rfl, (blk_cell BK265.out 4).trans rfl, (blk_cell BK265.out 5).trans rfl, (blk_cell BK265.out 6).trans rfl, (blk_cell BK265.out 7).trans rfl, (blk_cell BK271.out 0).trans rfl, (blk_cell BK271.out 1).trans rfl, (blk_cell BK271.out 2).trans rfl, (blk_cell BK271.out 3).trans rfl, ((HB.out.cell (World.block_lt_of_cell? w _ hw272_0)).trans hw272_0), ((HB.out.cell (World.block_lt_of_cell? w _ hw272_1)).trans hw272_1), ((HB.out.cell (World.block_lt_of_cell? w _ hw272_2)).trans hw272_2)⟩ (fun hHeld => ?_); refine with_tabW chargeparklaw12_ChargerLeases.tab11 chargeparklaw12_ChargerLeases.bits11 (fun HT_ HW_ => ?_)
                  generalize wr.drew = w77 at BK265 BK271 HB hx272_0 hx272_1 hx272_2 hHeld ⊢
                  refine pure_ (i := 2) (N := some 35) (v := ?_) (a' := ?_) #[false, false, true, false, false, false, false, false, false, false, false, false, false] rfl rfl (any_of HT_.out (by kernel_rfl)) (fun _ _ _ h => h) (Or.inl ⟨by rfl, ?_⟩) ?_ ?_
                  rotate_left
                  · intro w'
                    go_simp
                    with_reducible rfl
                  rotate_left
                  · simp only [Act.put, List.setIfInBounds_toArray, List.set_cons_zero, List.set_cons_succ, i64_w, i32_w]
                    rfl
                  refine pure_ (i := 3) (N := some 36) (v := ?_) (a' := ?_) #[false, false, true, true, false, false, false, false, false, false, false, false, false] rfl rfl (any_of HT_.out (by kernel_rfl)) (fun _ _ _ h => h) (Or.inl ⟨by rfl, ?_⟩) ?_ ?_
                  rotate_left
                  · intro w'
                    go_simp
                    with_reducible rfl
                  rotate_left
                  · simp only [Act.put, List.setIfInBounds_toArray, List.set_cons_zero, List.set_cons_succ, i64_w, i32_w]
                    rfl
                  refine pure_ (i := 4) (N := some 37) (v := ?_) (a' := ?_) #[false, false, true, true, true, false, false, false, false, false, false, false, false] rfl rfl (any_of HT_.out (by kernel_rfl)) (fun _ _ _ h => h) (Or.inl ⟨by rfl, ?_⟩) ?_ ?_
                  rotate_left
                  · intro w'
                    go_simp
                    with_reducible rfl
                  rotate_left
                  · simp only [Act.put, List.setIfInBounds_toArray, List.set_cons_zero, List.set_cons_succ, i64_w, i32_w]
                    rfl
                  refine take_ (i := 0) (N := some 33) (v := ?_) (a' := ?_) #[true, false, true, true, true, false, false, false, false, false, false, false, false] rfl rfl (take_ofW HT_.out HW_.out (by kernel_rfl)) (fun _ _ _ h => h) (Or.inl ⟨by rfl, ?_⟩) hHeld ?_ ?_
                  rotate_left
                  · rintro w' ⟨s0, s1, s2, s3, s4, s5, s6, s7, s8, s9, s10, s11, s12, s13, s14⟩
                    go_simp
                    with_reducible rfl
                  rotate_left
                  · simp only [Act.put, List.setIfInBounds_toArray, List.set_cons_zero, List.set_cons_succ, i64_w, i32_w]
                    rfl
                  refine take_ (i := 1) (N := some 34) (v := ?_) (a' := ?_) #[true, true, true, true, true, false, false, false, false, false, false, false, false] rfl rfl (take_ofW HT_.out HW_.out (by kernel_rfl)) (fun _ _ _ h => h) (Or.inl ⟨by rfl, ?_⟩) hHeld ?_ ?_
                  rotate_left
                  · rintro w' ⟨s0, s1, s2, s3, s4, s5, s6, s7, s8, s9, s10, s11, s12, s13, s14⟩
                    go_simp
                    with_reducible rfl
                  rotate_left
                  · simp only [Act.put, List.setIfInBounds_toArray, List.set_cons_zero, List.set_cons_succ, i64_w, i32_w]
                    rfl
                  refine take_ (i := 5) (N := some 38) (v := ?_) (a' := ?_) #[true, true, true, true, true, true, false, false, false, false, false, false, false] rfl rfl (take_ofW HT_.out HW_.out (by kernel_rfl)) (fun _ _ _ h => h) (Or.inl ⟨by rfl, ?_⟩) hHeld ?_ ?_
                  rotate_left
                  · rintro w' ⟨s0, s1, s2, s3, s4, s5, s6, s7, s8, s9, s10, s11, s12, s13, s14⟩
                    go_simp
                    with_reducible rfl
                  rotate_left
                  · simp only [Act.put, List.setIfInBounds_toArray, List.set_cons_zero, List.set_cons_succ, i64_w, i32_w]
                    rfl
                  refine join_ (σ := Nat) 2 #[true, true, true, true, true, true, true, true, true, true, true, false, false] (fun s_ => [(39, .tuple #[.agg #[.int .i64 t273, .int .i64 t274, .int .i64 t275, .bool t276], .int .i64 t277]), (11, .pointer (some ⟨s_, 0, none⟩)), (32, .tuple #[.agg #[.int .i64 t273, .int .i64 t274, .int .i64 t275, .bool t276], .int .i64 t277]), (40, .agg #[.int .i64 t273, .int .i64 t274, .int .i64 t275, .bool t276]), (41, .int .i64 t277)]) (fun s_ w' => (w'.cell? ⟨gb265, 0, none⟩ = some (.string a0_0) ∧ w'.cell? ⟨gb265, 1, none⟩ = some (.int .i64 a0_1) ∧ w'.cell? ⟨gb265, 2, none⟩ = some (.int .i64 a0_2) ∧ w'.cell? ⟨gb265, 3, none⟩ = some (.int .i64 a0_3) ∧ w'.cell? ⟨gb265, 4, none⟩ = some (.int .i64 a0_4) ∧ w'.cell? ⟨gb265, 5, none⟩ = some (.int .i64 a0_5) ∧ w'.cell? ⟨gb265, 6, none⟩ = some (.int .i64 a0_6) ∧ w'.cell? ⟨gb265, 7, none⟩ = some (.int .i64 a0_7) ∧ w'.cell? ⟨gb271, 0, none⟩ = some (.int .i64 x272000_2) ∧ w'.cell? ⟨gb271, 1, none⟩ = some (.int .i64 x272001_2) ∧ w'.cell? ⟨gb271, 2, none⟩ = some (.int .i64 x272002_2) ∧ w'.cell? ⟨gb271, 3, none⟩ = some (.bool x272003_2) ∧ w'.cell? (ad272.add ((x10_2).toNat * 3)) = some (.int .i64 ((rd_T27 l1 x10_2).f0)) ∧ w'.cell? ⟨(ad272.add ((x10_2).toNat * 3)).block, (ad272.add ((x10_2).toNat * 3)).off + 1, none⟩ = some (.int .i64 ((rd_T27 l1 x10_2).f1)) ∧ w'.cell? ⟨(ad272.add ((x10_2).toNat * 3)).block, (ad272.add ((x10_2).toNat * 3)).off + 2, none⟩ = some (.int .i64 ((rd_T27 l1 x10_2).f2))) ∧ (w'.heap[gb265]? = some (.cells #[.string a0_0, .int .i64 a0_1, .int .i64 a0_2, .int .i64 a0_3, .int .i64 a0_4, .int .i64 a0_5, .int .i64 a0_6, .int .i64 a0_7] 23 (0, 0))) ∧ (w'.heap[gb271]? = some (.cells #[.int .i64 x272000_2, .int .i64 x272001_2, .int .i64 x272002_2, .bool x272003_2] 25 (0, 0))) ∧ (w'.heap[s_]? = some (.cells #[.int .i64 0, .int .i64 0, .int .i64 0, .bool false] 25 (0, 0))) ∧ (w.heap.size ≤ s_) ∧ (w.heap.size ≤ s_) ∧ (gb265 ≠ s_) ∧ (s_ ≠ gb265) ∧ (gb271 ≠ s_) ∧ (s_ ≠ gb271) ∧ (Below w.heap.size w w')) ?_ ?_
                  rotate_left
                  · intro hCont
                    refine two_ (i := 6) (j := 10) (Ni := some 39) (Nj := some 11) #[true, true, true, true, true, true, true, false, false, false, false, false, false] #[true, true, true, true, true, true, false, false, false, false, true, false, false] rfl rfl rfl rfl (two_of HT_.out (by kernel_rfl)) (by decide) (by decide) (fun K hK => ?_) (fun K hK => ?_)
                    · skip
                      refine goes_ Tryd.func11 (by kernel_rfl) rfl #[.agg #[.string a0_0, .int .i64 a0_1, .int .i64 a0_2, .int .i64 a0_3, .int .i64 a0_4, .int .i64 a0_5, .int .i64 a0_6, .int .i64 a0_7], .agg #[.int .i64 x272000_2, .int .i64 x272001_2, .int .i64 x272002_2, .bool x272003_2], .agg #[.int .i64 ((rd_T27 l1 x10_2).f0), .int .i64 ((rd_T27 l1 x10_2).f1), .int .i64 ((rd_T27 l1 x10_2).f2)]] (by rfl) rfl rfl (by (try simp only [List.map_toArray, List.map_cons, List.map_nil]); first | done | rfl | (simp only [List.length_drop, List.length_take]; rfl)) ?_
                      with_reducible refine (charger_Step.calls a0_0 a0_1 a0_2 a0_3 a0_4 a0_5 a0_6 a0_7 x272000_2 x272001_2 x272002_2 x272003_2 ((rd_T27 l1 x10_2).f0) ((rd_T27 l1 x10_2).f1) ((rd_T27 l1 x10_2).f2) t273 t274 t275 t276 t277 _ (hG.below (by repeat (first | (with_reducible first | exact HB.out | apply below_alloc | apply pw_below_drewN | apply below_drew1) | exact HB.out | (refine Below.setCell ?_ (Aside0.out (by assumption)) _)))) A19.out).mono ?_
                      rintro e w78 ⟨rfl, hb⟩
                      refine ⟨_, rfl, ?_⟩
                      have n0_ := Aside0.mk (blk_below (g := gb265) (o := .cells #[.string a0_0, .int .i64 a0_1, .int .i64 a0_2, .int .i64 a0_3, .int .i64 a0_4, .int .i64 a0_5, .int .i64 a0_6, .int .i64 a0_7] 23 (0, 0)) (by (with_reducible repeat (first | refine blk_drewN ?_ _ | refine blk_drew ?_ | refine blk_alloc ?_ _)); exact BK265.out) hb)
                      have n1_ := Aside0.mk (blk_below (g := gb271) (o := .cells #[.int .i64 x272000_2, .int .i64 x272001_2, .int .i64 x272002_2, .bool x272003_2] 25 (0, 0)) (by (with_reducible repeat (first | refine blk_drewN ?_ _ | refine blk_drew ?_ | refine blk_alloc ?_ _)); exact BK271.out) hb)
                      have n2_ := Aside0.mk (below_step (by repeat (first | (with_reducible first | exact HB.out | apply below_alloc | apply pw_below_drewN | apply below_drew1 | refine below_set ?_ GE265.out | refine below_set ?_ GE271.out) | exact HB.out)) hb)
                      clear BK265
                      clear BK271
                      clear HB
                      have BK265 := n0_
                      have BK271 := n1_
                      have HB := n2_
                      clear n0_ n1_ n2_
                      (try clear hb)
                      (try clear hb2)
                      (try clear hk)
                      (try clear hi)
                      refine hK.out _ _ ⟨(blk_cell BK265.out 0).trans rfl, (blk_cell BK265.out 1).trans rfl, (blk_cell BK265.out 2).trans rfl, (blk_cell BK265.out 3).trans rfl, (blk_cell BK265.out 4).trans rfl, (blk_cell BK265.out 5).trans rfl, (blk_cell BK265.out 6).trans rfl, (blk_cell BK265.out 7).trans rfl, (blk_cell BK271.out 0).trans rfl, (blk_cell BK271.out 1).trans rfl, (blk_cell BK271.out 2).trans rfl, (blk_cell BK271.out 3).trans rfl, ((HB.out.cell (World.block_lt_of_cell? w _ hw272_0)).trans hw272_0), ((HB.out.cell (World.block_lt_of_cell? w _ hw272_1)).trans hw272_1), ((HB.out.cell (World.block_lt_of_cell? w _ hw272_2)).trans hw272_2)⟩ (fun hHeld => ?_)
                      clear hK K
                      refine norm_ (a' := ?_) ?_ ?_
                      rotate_left
                      · show Act.put _ (some 39) _ = _
                        simp only [Act.put, List.setIfInBounds_toArray, List.set_cons_zero, List.set_cons_succ, i64_w, i32_w]
                        rfl
                      refine pure_ (i := 7) (N := some 32) (v := ?_) (a' := ?_) #[true, true, true, true, true, true, true, true, false, false, false, false, false] rfl rfl (any_of HT_.out (by kernel_rfl)) (fun _ _ _ h => h) (Or.inl ⟨by rfl, ?_⟩) ?_ ?_
                      rotate_left
                      · intro w'
                        go_simp
                        with_reducible rfl
                      rotate_left
                      · simp only [Act.put, List.setIfInBounds_toArray, List.set_cons_zero, List.set_cons_succ, i64_w, i32_w]
                        rfl
                      refine pure_ (i := 8) (N := some 40) (v := ?_) (a' := ?_) #[true, true, true, true, true, true, true, true, true, false, false, false, false] rfl rfl (any_of HT_.out (by kernel_rfl)) (fun _ _ _ h => h) (Or.inl ⟨by rfl, ?_⟩) ?_ ?_
                      rotate_left
                      · intro w'
                        go_simp
                        with_reducible rfl
                      rotate_left
                      · simp only [Act.put, List.setIfInBounds_toArray, List.set_cons_zero, List.set_cons_succ, i64_w, i32_w]
                        rfl
                      refine pure_ (i := 9) (N := some 41) (v := ?_) (a' := ?_) #[true, true, true, true, true, true, true, true, true, true, false, false, false] rfl rfl (any_of HT_.out (by kernel_rfl)) (fun _ _ _ h => h) (Or.inl ⟨by rfl, ?_⟩) ?_ ?_
                      rotate_left
                      · intro w'
                        go_simp
                        with_reducible rfl
                      rotate_left
                      · simp only [Act.put, List.setIfInBounds_toArray, List.set_cons_zero, List.set_cons_succ, i64_w, i32_w]
                        rfl
                      refine one_ (i := 10) (N := some 11) #[true, true, true, true, true, true, true, true, true, true, true, false, false] rfl rfl (one_of HT_.out (by kernel_rfl)) (by decide) (fun K hK => ?_)
                      refine box_step ?hg (N := 11) ?hd (cs := #[.int .i64 0, .int .i64 0, .int .i64 0, .bool false]) (t := 25) ?hr ?_; (case hd => rfl); (case hg => rfl); (case hr => first | (go_simp; done) | (go_simp; rfl))
                      intro gb278 hg w79 hbox hb
                      have n0_ := Aside0.mk (blk_below (g := gb265) (o := .cells #[.string a0_0, .int .i64 a0_1, .int .i64 a0_2, .int .i64 a0_3, .int .i64 a0_4, .int .i64 a0_5, .int .i64 a0_6, .int .i64 a0_7] 23 (0, 0)) (by (with_reducible repeat (first | refine blk_drewN ?_ _ | refine blk_drew ?_ | refine blk_alloc ?_ _)); exact BK265.out) hb)
                      have n1_ := Aside0.mk (blk_below (g := gb271) (o := .cells #[.int .i64 x272000_2, .int .i64 x272001_2, .int .i64 x272002_2, .bool x272003_2] 25 (0, 0)) (by (with_reducible repeat (first | refine blk_drewN ?_ _ | refine blk_drew ?_ | refine blk_alloc ?_ _)); exact BK271.out) hb)
                      have n2_ := Aside0.mk (below_step (by repeat (first | (with_reducible first | exact HB.out | apply below_alloc | apply pw_below_drewN | apply below_drew1 | refine below_set ?_ GE265.out | refine below_set ?_ GE271.out) | exact HB.out)) hb)
                      have n3_ := Aside0.mk (hbox)
                      have n4_ := Aside0.mk ((by rw [hg]; exact (below_size (by repeat (first | (with_reducible first | exact HB.out | apply below_alloc | apply pw_below_drewN | apply below_drew1 | refine below_set ?_ GE265.out | refine below_set ?_ GE271.out) | exact HB.out))) : w.heap.size ≤ gb278))
                      have n5_ := Aside0.mk ((by rw [hg]; exact (below_size (by repeat (first | (with_reducible first | exact HB.out | apply below_alloc | apply pw_below_drewN | apply below_drew1 | refine below_set ?_ GE265.out | refine below_set ?_ GE271.out) | exact HB.out))) : w.heap.size ≤ gb278))
                      have n6_ := Aside0.mk ((by rw [hg]; exact Nat.ne_of_lt (blk_lt (g := gb265) (o := .cells #[.string a0_0, .int .i64 a0_1, .int .i64 a0_2, .int .i64 a0_3, .int .i64 a0_4, .int .i64 a0_5, .int .i64 a0_6, .int .i64 a0_7] 23 (0, 0)) (by (with_reducible repeat (first | refine blk_drewN ?_ _ | refine blk_drew ?_ | refine blk_alloc ?_ _)); exact BK265.out)) : gb265 ≠ gb278))
                      have n7_ := Aside0.mk ((by rw [hg]; exact Nat.ne_of_gt (blk_lt (g := gb265) (o := .cells #[.string a0_0, .int .i64 a0_1, .int .i64 a0_2, .int .i64 a0_3, .int .i64 a0_4, .int .i64 a0_5, .int .i64 a0_6, .int .i64 a0_7] 23 (0, 0)) (by (with_reducible repeat (first | refine blk_drewN ?_ _ | refine blk_drew ?_ | refine blk_alloc ?_ _)); exact BK265.out)) : gb278 ≠ gb265))
                      have n8_ := Aside0.mk ((by rw [hg]; exact Nat.ne_of_lt (blk_lt (g := gb271) (o := .cells #[.int .i64 x272000_2, .int .i64 x272001_2, .int .i64 x272002_2, .bool x272003_2] 25 (0, 0)) (by (with_reducible repeat (first | refine blk_drewN ?_ _ | refine blk_drew ?_ | refine blk_alloc ?_ _)); exact BK271.out)) : gb271 ≠ gb278))
                      have n9_ := Aside0.mk ((by rw [hg]; exact Nat.ne_of_gt (blk_lt (g := gb271) (o := .cells #[.int .i64 x272000_2, .int .i64 x272001_2, .int .i64 x272002_2, .bool x272003_2] 25 (0, 0)) (by (with_reducible repeat (first | refine blk_drewN ?_ _ | refine blk_drew ?_ | refine blk_alloc ?_ _)); exact BK271.out)) : gb278 ≠ gb271))
                      clear BK265
                      clear BK271
                      clear HB
                      have BK265 := n0_
                      have BK271 := n1_
                      have HB := n2_
                      have BK278 := n3_
                      have GW278 := n4_
                      have GE278 := n5_
                      have NB265_278 := n6_
                      have NB278_265 := n7_
                      have NB271_278 := n8_
                      have NB278_271 := n9_
                      clear n0_ n1_ n2_ n3_ n4_ n5_ n6_ n7_ n8_ n9_
                      clear hb hbox hg
                      refine hK.out _ _ ⟨(blk_cell BK265.out 0).trans rfl, (blk_cell BK265.out 1).trans rfl, (blk_cell BK265.out 2).trans rfl, (blk_cell BK265.out 3).trans rfl, (blk_cell BK265.out 4).trans rfl, (blk_cell BK265.out 5).trans rfl, (blk_cell BK265.out 6).trans rfl, (blk_cell BK265.out 7).trans rfl, (blk_cell BK271.out 0).trans rfl, (blk_cell BK271.out 1).trans rfl, (blk_cell BK271.out 2).trans rfl, (blk_cell BK271.out 3).trans rfl, ((HB.out.cell (World.block_lt_of_cell? w _ hw272_0)).trans hw272_0), ((HB.out.cell (World.block_lt_of_cell? w _ hw272_1)).trans hw272_1), ((HB.out.cell (World.block_lt_of_cell? w _ hw272_2)).trans hw272_2)⟩ (fun hHeld => ?_)
                      clear hK K
                      refine norm_ (a' := ?_) ?_ ?_
                      rotate_left
                      · show Act.put _ (some 11) _ = _
                        simp only [Act.put, List.setIfInBounds_toArray, List.set_cons_zero, List.set_cons_succ, i64_w, i32_w]
                        rfl
                      exact norm_ (by simp only [putAll, Act.put, List.setIfInBounds_toArray, List.set_cons_zero, List.set_cons_succ]) (hCont (gb278) _ ⟨hHeld, (by (with_reducible repeat (first | refine blk_drewN ?_ _ | refine blk_drew ?_ | refine blk_alloc ?_ _)); exact BK265.out), (by (with_reducible repeat (first | refine blk_drewN ?_ _ | refine blk_drew ?_ | refine blk_alloc ?_ _)); exact BK271.out), (by (with_reducible repeat (first | refine blk_drewN ?_ _ | refine blk_drew ?_ | refine blk_alloc ?_ _)); exact BK278.out), GW278.out, GE278.out, NB265_278.out, NB278_265.out, NB271_278.out, NB278_271.out, (by repeat (first | (with_reducible first | exact HB.out | apply below_alloc | apply pw_below_drewN | apply below_drew1 | refine below_set ?_ GE265.out | refine below_set ?_ GE271.out | refine below_set ?_ GE278.out) | exact HB.out))⟩)
                    · skip
                      refine box_step ?hg (N := 11) ?hd (cs := #[.int .i64 0, .int .i64 0, .int .i64 0, .bool false]) (t := 25) ?hr ?_; (case hd => rfl); (case hg => rfl); (case hr => first | (go_simp; done) | (go_simp; rfl))
                      intro gb278 hg w78 hbox hb
                      have n0_ := Aside0.mk (blk_below (g := gb265) (o := .cells #[.string a0_0, .int .i64 a0_1, .int .i64 a0_2, .int .i64 a0_3, .int .i64 a0_4, .int .i64 a0_5, .int .i64 a0_6, .int .i64 a0_7] 23 (0, 0)) (by (with_reducible repeat (first | refine blk_drewN ?_ _ | refine blk_drew ?_ | refine blk_alloc ?_ _)); exact BK265.out) hb)
                      have n1_ := Aside0.mk (blk_below (g := gb271) (o := .cells #[.int .i64 x272000_2, .int .i64 x272001_2, .int .i64 x272002_2, .bool x272003_2] 25 (0, 0)) (by (with_reducible repeat (first | refine blk_drewN ?_ _ | refine blk_drew ?_ | refine blk_alloc ?_ _)); exact BK271.out) hb)
                      have n2_ := Aside0.mk (below_step (by repeat (first | (with_reducible first | exact HB.out | apply below_alloc | apply pw_below_drewN | apply below_drew1 | refine below_set ?_ GE265.out | refine below_set ?_ GE271.out) | exact HB.out)) hb)
                      have n3_ := Aside0.mk (hbox)
                      have n4_ := Aside0.mk ((by rw [hg]; exact (below_size (by repeat (first | (with_reducible first | exact HB.out | apply below_alloc | apply pw_below_drewN | apply below_drew1 | refine below_set ?_ GE265.out | refine below_set ?_ GE271.out) | exact HB.out))) : w.heap.size ≤ gb278))
                      have n5_ := Aside0.mk ((by rw [hg]; exact (below_size (by repeat (first | (with_reducible first | exact HB.out | apply below_alloc | apply pw_below_drewN | apply below_drew1 | refine below_set ?_ GE265.out | refine below_set ?_ GE271.out) | exact HB.out))) : w.heap.size ≤ gb278))
                      have n6_ := Aside0.mk ((by rw [hg]; exact Nat.ne_of_lt (blk_lt (g := gb265) (o := .cells #[.string a0_0, .int .i64 a0_1, .int .i64 a0_2, .int .i64 a0_3, .int .i64 a0_4, .int .i64 a0_5, .int .i64 a0_6, .int .i64 a0_7] 23 (0, 0)) (by (with_reducible repeat (first | refine blk_drewN ?_ _ | refine blk_drew ?_ | refine blk_alloc ?_ _)); exact BK265.out)) : gb265 ≠ gb278))
                      have n7_ := Aside0.mk ((by rw [hg]; exact Nat.ne_of_gt (blk_lt (g := gb265) (o := .cells #[.string a0_0, .int .i64 a0_1, .int .i64 a0_2, .int .i64 a0_3, .int .i64 a0_4, .int .i64 a0_5, .int .i64 a0_6, .int .i64 a0_7] 23 (0, 0)) (by (with_reducible repeat (first | refine blk_drewN ?_ _ | refine blk_drew ?_ | refine blk_alloc ?_ _)); exact BK265.out)) : gb278 ≠ gb265))
                      have n8_ := Aside0.mk ((by rw [hg]; exact Nat.ne_of_lt (blk_lt (g := gb271) (o := .cells #[.int .i64 x272000_2, .int .i64 x272001_2, .int .i64 x272002_2, .bool x272003_2] 25 (0, 0)) (by (with_reducible repeat (first | refine blk_drewN ?_ _ | refine blk_drew ?_ | refine blk_alloc ?_ _)); exact BK271.out)) : gb271 ≠ gb278))
                      have n9_ := Aside0.mk ((by rw [hg]; exact Nat.ne_of_gt (blk_lt (g := gb271) (o := .cells #[.int .i64 x272000_2, .int .i64 x272001_2, .int .i64 x272002_2, .bool x272003_2] 25 (0, 0)) (by (with_reducible repeat (first | refine blk_drewN ?_ _ | refine blk_drew ?_ | refine blk_alloc ?_ _)); exact BK271.out)) : gb278 ≠ gb271))
                      clear BK265
                      clear BK271
                      clear HB
                      have BK265 := n0_
                      have BK271 := n1_
                      have HB := n2_
                      have BK278 := n3_
                      have GW278 := n4_
                      have GE278 := n5_
                      have NB265_278 := n6_
                      have NB278_265 := n7_
                      have NB271_278 := n8_
                      have NB278_271 := n9_
                      clear n0_ n1_ n2_ n3_ n4_ n5_ n6_ n7_ n8_ n9_
                      clear hb hbox hg
                      refine hK.out _ _ ⟨(blk_cell BK265.out 0).trans rfl, (blk_cell BK265.out 1).trans rfl, (blk_cell BK265.out 2).trans rfl, (blk_cell BK265.out 3).trans rfl, (blk_cell BK265.out 4).trans rfl, (blk_cell BK265.out 5).trans rfl, (blk_cell BK265.out 6).trans rfl, (blk_cell BK265.out 7).trans rfl, (blk_cell BK271.out 0).trans rfl, (blk_cell BK271.out 1).trans rfl, (blk_cell BK271.out 2).trans rfl, (blk_cell BK271.out 3).trans rfl, ((HB.out.cell (World.block_lt_of_cell? w _ hw272_0)).trans hw272_0), ((HB.out.cell (World.block_lt_of_cell? w _ hw272_1)).trans hw272_1), ((HB.out.cell (World.block_lt_of_cell? w _ hw272_2)).trans hw272_2)⟩ (fun hHeld => ?_)
                      clear hK K
                      refine norm_ (a' := ?_) ?_ ?_
                      rotate_left
                      · show Act.put _ (some 11) _ = _
                        simp only [Act.put, List.setIfInBounds_toArray, List.set_cons_zero, List.set_cons_succ, i64_w, i32_w]
                        rfl
                      refine one_ (i := 6) (N := some 39) #[true, true, true, true, true, true, true, false, false, false, true, false, false] rfl rfl (one_of HT_.out (by kernel_rfl)) (by decide) (fun K hK => ?_)
                      refine goes_ Tryd.func11 (by kernel_rfl) rfl #[.agg #[.string a0_0, .int .i64 a0_1, .int .i64 a0_2, .int .i64 a0_3, .int .i64 a0_4, .int .i64 a0_5, .int .i64 a0_6, .int .i64 a0_7], .agg #[.int .i64 x272000_2, .int .i64 x272001_2, .int .i64 x272002_2, .bool x272003_2], .agg #[.int .i64 ((rd_T27 l1 x10_2).f0), .int .i64 ((rd_T27 l1 x10_2).f1), .int .i64 ((rd_T27 l1 x10_2).f2)]] (by rfl) rfl rfl (by (try simp only [List.map_toArray, List.map_cons, List.map_nil]); first | done | rfl | (simp only [List.length_drop, List.length_take]; rfl)) ?_
                      with_reducible refine (charger_Step.calls a0_0 a0_1 a0_2 a0_3 a0_4 a0_5 a0_6 a0_7 x272000_2 x272001_2 x272002_2 x272003_2 ((rd_T27 l1 x10_2).f0) ((rd_T27 l1 x10_2).f1) ((rd_T27 l1 x10_2).f2) t273 t274 t275 t276 t277 _ (hG.below (by repeat (first | (with_reducible first | exact HB.out | apply below_alloc | apply pw_below_drewN | apply below_drew1) | exact HB.out | (refine Below.setCell ?_ (Aside0.out (by assumption)) _)))) A19.out).mono ?_
                      rintro e w79 ⟨rfl, hb⟩
                      refine ⟨_, rfl, ?_⟩
                      have n0_ := Aside0.mk (blk_below (g := gb265) (o := .cells #[.string a0_0, .int .i64 a0_1, .int .i64 a0_2, .int .i64 a0_3, .int .i64 a0_4, .int .i64 a0_5, .int .i64 a0_6, .int .i64 a0_7] 23 (0, 0)) (by (with_reducible repeat (first | refine blk_drewN ?_ _ | refine blk_drew ?_ | refine blk_alloc ?_ _)); exact BK265.out) hb)
                      have n1_ := Aside0.mk (blk_below (g := gb271) (o := .cells #[.int .i64 x272000_2, .int .i64 x272001_2, .int .i64 x272002_2, .bool x272003_2] 25 (0, 0)) (by (with_reducible repeat (first | refine blk_drewN ?_ _ | refine blk_drew ?_ | refine blk_alloc ?_ _)); exact BK271.out) hb)
                      have n2_ := Aside0.mk (blk_below (g := gb278) (o := .cells #[.int .i64 0, .int .i64 0, .int .i64 0, .bool false] 25 (0, 0)) (by (with_reducible repeat (first | refine blk_drewN ?_ _ | refine blk_drew ?_ | refine blk_alloc ?_ _)); exact BK278.out) hb)
                      have n3_ := Aside0.mk (below_step (by repeat (first | (with_reducible first | exact HB.out | apply below_alloc | apply pw_below_drewN | apply below_drew1 | refine below_set ?_ GE265.out | refine below_set ?_ GE271.out | refine below_set ?_ GE278.out) | exact HB.out)) hb)
                      clear BK265
                      clear BK271
                      clear BK278
                      clear HB
                      have BK265 := n0_
                      have BK271 := n1_
                      have BK278 := n2_
                      have HB := n3_
                      clear n0_ n1_ n2_ n3_
                      (try clear hb)
                      (try clear hb2)
                      (try clear hk)
                      (try clear hi)
                      refine hK.out _ _ ⟨(blk_cell BK265.out 0).trans rfl, (blk_cell BK265.out 1).trans rfl, (blk_cell BK265.out 2).trans rfl, (blk_cell BK265.out 3).trans rfl, (blk_cell BK265.out 4).trans rfl, (blk_cell BK265.out 5).trans rfl, (blk_cell BK265.out 6).trans rfl, (blk_cell BK265.out 7).trans rfl, (blk_cell BK271.out 0).trans rfl, (blk_cell BK271.out 1).trans rfl, (blk_cell BK271.out 2).trans rfl, (blk_cell BK271.out 3).trans rfl, ((HB.out.cell (World.block_lt_of_cell? w _ hw272_0)).trans hw272_0), ((HB.out.cell (World.block_lt_of_cell? w _ hw272_1)).trans hw272_1), ((HB.out.cell (World.block_lt_of_cell? w _ hw272_2)).trans hw272_2)⟩ (fun hHeld => ?_)
                      clear hK K
                      refine norm_ (a' := ?_) ?_ ?_
                      rotate_left
                      · show Act.put _ (some 39) _ = _
                        simp only [Act.put, List.setIfInBounds_toArray, List.set_cons_zero, List.set_cons_succ, i64_w, i32_w]
                        rfl
                      refine pure_ (i := 7) (N := some 32) (v := ?_) (a' := ?_) #[true, true, true, true, true, true, true, true, false, false, true, false, false] rfl rfl (any_of HT_.out (by kernel_rfl)) (fun _ _ _ h => h) (Or.inl ⟨by rfl, ?_⟩) ?_ ?_
                      rotate_left
                      · intro w'
                        go_simp
                        with_reducible rfl
                      rotate_left
                      · simp only [Act.put, List.setIfInBounds_toArray, List.set_cons_zero, List.set_cons_succ, i64_w, i32_w]
                        rfl
                      refine pure_ (i := 8) (N := some 40) (v := ?_) (a' := ?_) #[true, true, true, true, true, true, true, true, true, false, true, false, false] rfl rfl (any_of HT_.out (by kernel_rfl)) (fun _ _ _ h => h) (Or.inl ⟨by rfl, ?_⟩) ?_ ?_
                      rotate_left
                      · intro w'
                        go_simp
                        with_reducible rfl
                      rotate_left
                      · simp only [Act.put, List.setIfInBounds_toArray, List.set_cons_zero, List.set_cons_succ, i64_w, i32_w]
                        rfl
                      refine pure_ (i := 9) (N := some 41) (v := ?_) (a' := ?_) #[true, true, true, true, true, true, true, true, true, true, true, false, false] rfl rfl (any_of HT_.out (by kernel_rfl)) (fun _ _ _ h => h) (Or.inl ⟨by rfl, ?_⟩) ?_ ?_
                      rotate_left
                      · intro w'
                        go_simp
                        with_reducible rfl
                      rotate_left
                      · simp only [Act.put, List.setIfInBounds_toArray, List.set_cons_zero, List.set_cons_succ, i64_w, i32_w]
                        rfl
                      exact norm_ (by simp only [putAll, Act.put, List.setIfInBounds_toArray, List.set_cons_zero, List.set_cons_succ]) (hCont (gb278) _ ⟨hHeld, (by (with_reducible repeat (first | refine blk_drewN ?_ _ | refine blk_drew ?_ | refine blk_alloc ?_ _)); exact BK265.out), (by (with_reducible repeat (first | refine blk_drewN ?_ _ | refine blk_drew ?_ | refine blk_alloc ?_ _)); exact BK271.out), (by (with_reducible repeat (first | refine blk_drewN ?_ _ | refine blk_drew ?_ | refine blk_alloc ?_ _)); exact BK278.out), GW278.out, GE278.out, NB265_278.out, NB278_265.out, NB271_278.out, NB278_271.out, (by repeat (first | (with_reducible first | exact HB.out | apply below_alloc | apply pw_below_drewN | apply below_drew1 | refine below_set ?_ GE265.out | refine below_set ?_ GE271.out | refine below_set ?_ GE278.out) | exact HB.out))⟩)
                  rintro gb278 w80 ⟨hS_, h0_, h1_, h2_, h3_, h4_, h5_, h6_, h7_, h8_, h9_⟩
                  have n0_ : Aside0 (w80.heap[gb265]? = some (.cells #[.string a0_0, .int .i64 a0_1, .int .i64 a0_2, .int .i64 a0_3, .int .i64 a0_4, .int .i64 a0_5, .int .i64 a0_6, .int .i64 a0_7] 23 (0, 0))) := ⟨h0_⟩
                  have n1_ : Aside0 (w80.heap[gb271]? = some (.cells #[.int .i64 x272000_2, .int .i64 x272001_2, .int .i64 x272002_2, .bool x272003_2] 25 (0, 0))) := ⟨h1_⟩
                  have n2_ : Aside0 (w80.heap[gb278]? = some (.cells #[.int .i64 0, .int .i64 0, .int .i64 0, .bool false] 25 (0, 0))) := ⟨h2_⟩
                  have n3_ : Aside0 (w.heap.size ≤ gb278) := ⟨h3_⟩
                  have n4_ : Aside0 (w.heap.size ≤ gb278) := ⟨h4_⟩
                  have n5_ : Aside0 (gb265 ≠ gb278) := ⟨h5_⟩
                  have n6_ : Aside0 (gb278 ≠ gb265) := ⟨h6_⟩
                  have n7_ : Aside0 (gb271 ≠ gb278) := ⟨h7_⟩
                  have n8_ : Aside0 (gb278 ≠ gb271) := ⟨h8_⟩
                  have n9_ : Aside0 (Below w.heap.size w w80) := ⟨h9_⟩
                  clear BK265
                  clear BK271
                  clear HB
                  clear h0_ h1_ h2_ h3_ h4_ h5_ h6_ h7_ h8_ h9_
                  have BK265 := n0_
                  have BK271 := n1_
                  have BK278 := n2_
                  have GW278 := n3_
                  have GE278 := n4_
                  have NB265_278 := n5_
                  have NB278_265 := n6_
                  have NB271_278 := n7_
                  have NB278_271 := n8_
                  have HB := n9_
                  clear n0_ n1_ n2_ n3_ n4_ n5_ n6_ n7_ n8_ n9_
                  have hHeld : w80.cell? ⟨gb265, 0, none⟩ = some (.string a0_0) ∧ w80.cell? ⟨gb265, 1, none⟩ = some (.int .i64 a0_1) ∧ w80.cell? ⟨gb265, 2, none⟩ = some (.int .i64 a0_2) ∧ w80.cell? ⟨gb265, 3, none⟩ = some (.int .i64 a0_3) ∧ w80.cell? ⟨gb265, 4, none⟩ = some (.int .i64 a0_4) ∧ w80.cell? ⟨gb265, 5, none⟩ = some (.int .i64 a0_5) ∧ w80.cell? ⟨gb265, 6, none⟩ = some (.int .i64 a0_6) ∧ w80.cell? ⟨gb265, 7, none⟩ = some (.int .i64 a0_7) ∧ w80.cell? ⟨gb271, 0, none⟩ = some (.int .i64 x272000_2) ∧ w80.cell? ⟨gb271, 1, none⟩ = some (.int .i64 x272001_2) ∧ w80.cell? ⟨gb271, 2, none⟩ = some (.int .i64 x272002_2) ∧ w80.cell? ⟨gb271, 3, none⟩ = some (.bool x272003_2) ∧ w80.cell? (ad272.add ((x10_2).toNat * 3)) = some (.int .i64 ((rd_T27 l1 x10_2).f0)) ∧ w80.cell? ⟨(ad272.add ((x10_2).toNat * 3)).block, (ad272.add ((x10_2).toNat * 3)).off + 1, none⟩ = some (.int .i64 ((rd_T27 l1 x10_2).f1)) ∧ w80.cell? ⟨(ad272.add ((x10_2).toNat * 3)).block, (ad272.add ((x10_2).toNat * 3)).off + 2, none⟩ = some (.int .i64 ((rd_T27 l1 x10_2).f2)) := hS_
                  refine norm_ (a' := ?_) ?_ ?_
                  rotate_left
                  · simp only [putAll, Act.put, List.setIfInBounds_toArray, List.set_cons_zero, List.set_cons_succ]
                    rfl
                  refine one_ (i := 11) (N := none) #[true, true, true, true, true, true, true, true, true, true, true, true, false] rfl rfl (one_of HT_.out (by kernel_rfl)) (by decide) (fun K hK => ?_)
                  have hs81 : w80.cell? ⟨gb278, 0, none⟩ = some (.int .i64 0) := (blk_cell BK278.out 0).trans rfl
                  have hfs81 := blk_frozen BK278.out 0
                  have hns81_0 := NB265_278.out
                  have hns81_1 := NB271_278.out
                  have hms81_0 := NB278_265.out
                  have hms81_1 := NB278_271.out
                  have hs82 : w80.cell? ⟨gb278, 1, none⟩ = some (.int .i64 0) := (blk_cell BK278.out 1).trans rfl
                  have hfs82 := blk_frozen BK278.out 1
                  have hns82_0 := NB265_278.out
                  have hns82_1 := NB271_278.out
                  have hms82_0 := NB278_265.out
                  have hms82_1 := NB278_271.out
                  have hs83 : w80.cell? ⟨gb278, 2, none⟩ = some (.int .i64 0) := (blk_cell BK278.out 2).trans rfl
                  have hfs83 := blk_frozen BK278.out 2
                  have hns83_0 := NB265_278.out
                  have hns83_1 := NB271_278.out
                  have hms83_0 := NB278_265.out
                  have hms83_1 := NB278_271.out
                  have hs84 : w80.cell? ⟨gb278, 3, none⟩ = some (.bool false) := (blk_cell BK278.out 3).trans rfl
                  have hfs84 := blk_frozen BK278.out 3
                  have hns84_0 := NB265_278.out
                  have hns84_1 := NB271_278.out
                  have hms84_0 := NB278_265.out
                  have hms84_1 := NB278_271.out
                  refine skip_ (w1 := ?_) (by rfl) rfl ?_ ?_
                  rotate_left
                  · go_simp
                    rfl
                  refine hK.out _ _ ⟨((cell_far (p := ⟨gb278, _, none⟩) NB265_278.out _).trans (((cell_far (p := ⟨gb278, _, none⟩) NB265_278.out _).trans (((cell_far (p := ⟨gb278, _, none⟩) NB265_278.out _).trans (((cell_far (p := ⟨gb278, _, none⟩) NB265_278.out _).trans (hHeld.1)))))))), ((cell_far (p := ⟨gb278, _, none⟩) NB265_278.out _).trans (((cell_far (p := ⟨gb278, _, none⟩) NB265_278.out _).trans (((cell_far (p := ⟨gb278, _, none⟩) NB265_278.out _).trans (((cell_far (p := ⟨gb278, _, none⟩) NB265_278.out _).trans (hHeld.2.1)))))))), ((cell_far (p := ⟨gb278, _, none⟩) NB265_278.out _).trans (((cell_far (p := ⟨gb278, _, none⟩) NB265_278.out _).trans (((cell_far (p := ⟨gb278, _, none⟩) NB265_278.out _).trans (((cell_far (p := ⟨gb278, _, none⟩) NB265_278.out _).trans (hHeld.2.2.1)))))))), ((cell_far (p := ⟨gb278, _, none⟩) NB265_278.out _).trans (((cell_far (p := ⟨gb278, _, none⟩) NB265_278.out _).trans (((cell_far (p := ⟨gb278, _, none⟩) NB265_278.out _).trans (((cell_far (p := ⟨gb278, _, none⟩) NB265_278.out _).trans (hHeld.2.2.2.1)))))))), ((cell_far (p := ⟨gb278, _, none⟩) NB265_278.out _).trans (((cell_far (p := ⟨gb278, _, none⟩) NB265_278.out _).trans (((cell_far (p := ⟨gb278, _, none⟩) NB265_278.out _).trans (((cell_far (p := ⟨gb278, _, none⟩) NB265_278.out _).trans (hHeld.2.2.2.2.1)))))))), ((cell_far (p := ⟨gb278, _, none⟩) NB265_278.out _).trans (((cell_far (p := ⟨gb278, _, none⟩) NB265_278.out _).trans (((cell_far (p := ⟨gb278, _, none⟩) NB265_278.out _).trans (((cell_far (p := ⟨gb278, _, none⟩) NB265_278.out _).trans (hHeld.2.2.2.2.2.1)))))))), ((cell_far (p := ⟨gb278, _, none⟩) NB265_278.out _).trans (((cell_far (p := ⟨gb278, _, none⟩) NB265_278.out _).trans (((cell_far (p := ⟨gb278, _, none⟩) NB265_278.out _).trans (((cell_far (p := ⟨gb278, _, none⟩) NB265_278.out _).trans (hHeld.2.2.2.2.2.2.1)))))))), ((cell_far (p := ⟨gb278, _, none⟩) NB265_278.out _).trans (((cell_far (p := ⟨gb278, _, none⟩) NB265_278.out _).trans (((cell_far (p := ⟨gb278, _, none⟩) NB265_278.out _).trans (((cell_far (p := ⟨gb278, _, none⟩) NB265_278.out _).trans (hHeld.2.2.2.2.2.2.2.1)))))))), ((cell_far (p := ⟨gb278, _, none⟩) NB271_278.out _).trans (((cell_far (p := ⟨gb278, _, none⟩) NB271_278.out _).trans (((cell_far (p := ⟨gb278, _, none⟩) NB271_278.out _).trans (((cell_far (p := ⟨gb278, _, none⟩) NB271_278.out _).trans (hHeld.2.2.2.2.2.2.2.2.1)))))))), ((cell_far (p := ⟨gb278, _, none⟩) NB271_278.out _).trans (((cell_far (p := ⟨gb278, _, none⟩) NB271_278.out _).trans (((cell_far (p := ⟨gb278, _, none⟩) NB271_278.out _).trans (((cell_far (p := ⟨gb278, _, none⟩) NB271_278.out _).trans (hHeld.2.2.2.2.2.2.2.2.2.1)))))))), ((cell_far (p := ⟨gb278, _, none⟩) NB271_278.out _).trans (((cell_far (p := ⟨gb278, _, none⟩) NB271_278.out _).trans (((cell_far (p := ⟨gb278, _, none⟩) NB271_278.out _).trans (((cell_far (p := ⟨gb278, _, none⟩) NB271_278.out _).trans (hHeld.2.2.2.2.2.2.2.2.2.2.1)))))))), ((cell_far (p := ⟨gb278, _, none⟩) NB271_278.out _).trans (((cell_far (p := ⟨gb278, _, none⟩) NB271_278.out _).trans (((cell_far (p := ⟨gb278, _, none⟩) NB271_278.out _).trans (((cell_far (p := ⟨gb278, _, none⟩) NB271_278.out _).trans (hHeld.2.2.2.2.2.2.2.2.2.2.2.1)))))))), ((cell_far (p := ⟨gb278, _, none⟩) (by first | exact Nat.ne_of_lt (Nat.lt_of_lt_of_le (by have := World.block_lt_of_cell? _ _ hw272_0; first | rwa [add_block] at this | exact this) GW278.out) | (rw [add_block]; exact Nat.ne_of_lt (Nat.lt_of_lt_of_le (by have := World.block_lt_of_cell? _ _ hw272_0; first | rwa [add_block] at this | exact this) GW278.out)) | (show (Addr.add _ _).block ≠ _; rw [add_block]; exact Nat.ne_of_lt (Nat.lt_of_lt_of_le (by have := World.block_lt_of_cell? _ _ hw272_0; first | rwa [add_block] at this | exact this) GW278.out)) | (dsimp only; exact Nat.ne_of_lt (Nat.lt_of_lt_of_le (by have := World.block_lt_of_cell? _ _ hw272_0; first | rwa [add_block] at this | exact this) GW278.out))) _).trans (((cell_far (p := ⟨gb278, _, none⟩) (by first | exact Nat.ne_of_lt (Nat.lt_of_lt_of_le (by have := World.block_lt_of_cell? _ _ hw272_0; first | rwa [add_block] at this | exact this) GW278.out) | (rw [add_block]; exact Nat.ne_of_lt (Nat.lt_of_lt_of_le (by have := World.block_lt_of_cell? _ _ hw272_0; first | rwa [add_block] at this | exact this) GW278.out)) | (show (Addr.add _ _).block ≠ _; rw [add_block]; exact Nat.ne_of_lt (Nat.lt_of_lt_of_le (by have := World.block_lt_of_cell? _ _ hw272_0; first | rwa [add_block] at this | exact this) GW278.out)) | (dsimp only; exact Nat.ne_of_lt (Nat.lt_of_lt_of_le (by have := World.block_lt_of_cell? _ _ hw272_0; first | rwa [add_block] at this | exact this) GW278.out))) _).trans (((cell_far (p := ⟨gb278, _, none⟩) (by first | exact Nat.ne_of_lt (Nat.lt_of_lt_of_le (by have := World.block_lt_of_cell? _ _ hw272_0; first | rwa [add_block] at this | exact this) GW278.out) | (rw [add_block]; exact Nat.ne_of_lt (Nat.lt_of_lt_of_le (by have := World.block_lt_of_cell? _ _ hw272_0; first | rwa [add_block] at this | exact this) GW278.out)) | (show (Addr.add _ _).block ≠ _; rw [add_block]; exact Nat.ne_of_lt (Nat.lt_of_lt_of_le (by have := World.block_lt_of_cell? _ _ hw272_0; first | rwa [add_block] at this | exact this) GW278.out)) | (dsimp only; exact Nat.ne_of_lt (Nat.lt_of_lt_of_le (by have := World.block_lt_of_cell? _ _ hw272_0; first | rwa [add_block] at this | exact this) GW278.out))) _).trans (((cell_far (p := ⟨gb278, _, none⟩) (by first | exact Nat.ne_of_lt (Nat.lt_of_lt_of_le (by have := World.block_lt_of_cell? _ _ hw272_0; first | rwa [add_block] at this | exact this) GW278.out) | (rw [add_block]; exact Nat.ne_of_lt (Nat.lt_of_lt_of_le (by have := World.block_lt_of_cell? _ _ hw272_0; first | rwa [add_block] at this | exact this) GW278.out)) | (show (Addr.add _ _).block ≠ _; rw [add_block]; exact Nat.ne_of_lt (Nat.lt_of_lt_of_le (by have := World.block_lt_of_cell? _ _ hw272_0; first | rwa [add_block] at this | exact this) GW278.out)) | (dsimp only; exact Nat.ne_of_lt (Nat.lt_of_lt_of_le (by have := World.block_lt_of_cell? _ _ hw272_0; first | rwa [add_block] at this | exact this) GW278.out))) _).trans (hHeld.2.2.2.2.2.2.2.2.2.2.2.2.1)))))))), ((cell_far (p := ⟨gb278, _, none⟩) (by first | exact Nat.ne_of_lt (Nat.lt_of_lt_of_le (by have := World.block_lt_of_cell? _ _ hw272_1; first | rwa [add_block] at this | exact this) GW278.out) | (rw [add_block]; exact Nat.ne_of_lt (Nat.lt_of_lt_of_le (by have := World.block_lt_of_cell? _ _ hw272_1; first | rwa [add_block] at this | exact this) GW278.out)) | (show (Addr.add _ _).block ≠ _; rw [add_block]; exact Nat.ne_of_lt (Nat.lt_of_lt_of_le (by have := World.block_lt_of_cell? _ _ hw272_1; first | rwa [add_block] at this | exact this) GW278.out)) | (dsimp only; exact Nat.ne_of_lt (Nat.lt_of_lt_of_le (by have := World.block_lt_of_cell? _ _ hw272_1; first | rwa [add_block] at this | exact this) GW278.out))) _).trans (((cell_far (p := ⟨gb278, _, none⟩) (by first | exact Nat.ne_of_lt (Nat.lt_of_lt_of_le (by have := World.block_lt_of_cell? _ _ hw272_1; first | rwa [add_block] at this | exact this) GW278.out) | (rw [add_block]; exact Nat.ne_of_lt (Nat.lt_of_lt_of_le (by have := World.block_lt_of_cell? _ _ hw272_1; first | rwa [add_block] at this | exact this) GW278.out)) | (show (Addr.add _ _).block ≠ _; rw [add_block]; exact Nat.ne_of_lt (Nat.lt_of_lt_of_le (by have := World.block_lt_of_cell? _ _ hw272_1; first | rwa [add_block] at this | exact this) GW278.out)) | (dsimp only; exact Nat.ne_of_lt (Nat.lt_of_lt_of_le (by have := World.block_lt_of_cell? _ _ hw272_1; first | rwa [add_block] at this | exact this) GW278.out))) _).trans (((cell_far (p := ⟨gb278, _, none⟩) (by first | exact Nat.ne_of_lt (Nat.lt_of_lt_of_le (by have := World.block_lt_of_cell? _ _ hw272_1; first | rwa [add_block] at this | exact this) GW278.out) | (rw [add_block]; exact Nat.ne_of_lt (Nat.lt_of_lt_of_le (by have := World.block_lt_of_cell? _ _ hw272_1; first | rwa [add_block] at this | exact this) GW278.out)) | (show (Addr.add _ _).block ≠ _; rw [add_block]; exact Nat.ne_of_lt (Nat.lt_of_lt_of_le (by have := World.block_lt_of_cell? _ _ hw272_1; first | rwa [add_block] at this | exact this) GW278.out)) | (dsimp only; exact Nat.ne_of_lt (Nat.lt_of_lt_of_le (by have := World.block_lt_of_cell? _ _ hw272_1; first | rwa [add_block] at this | exact this) GW278.out))) _).trans (((cell_far (p := ⟨gb278, _, none⟩) (by first | exact Nat.ne_of_lt (Nat.lt_of_lt_of_le (by have := World.block_lt_of_cell? _ _ hw272_1; first | rwa [add_block] at this | exact this) GW278.out) | (rw [add_block]; exact Nat.ne_of_lt (Nat.lt_of_lt_of_le (by have := World.block_lt_of_cell? _ _ hw272_1; first | rwa [add_block] at this | exact this) GW278.out)) | (show (Addr.add _ _).block ≠ _; rw [add_block]; exact Nat.ne_of_lt (Nat.lt_of_lt_of_le (by have := World.block_lt_of_cell? _ _ hw272_1; first | rwa [add_block] at this | exact this) GW278.out)) | (dsimp only; exact Nat.ne_of_lt (Nat.lt_of_lt_of_le (by have := World.block_lt_of_cell? _ _ hw272_1; first | rwa [add_block] at this | exact this) GW278.out))) _).trans (hHeld.2.2.2.2.2.2.2.2.2.2.2.2.2.1)))))))), ((cell_far (p := ⟨gb278, _, none⟩) (by first | exact Nat.ne_of_lt (Nat.lt_of_lt_of_le (by have := World.block_lt_of_cell? _ _ hw272_2; first | rwa [add_block] at this | exact this) GW278.out) | (rw [add_block]; exact Nat.ne_of_lt (Nat.lt_of_lt_of_le (by have := World.block_lt_of_cell? _ _ hw272_2; first | rwa [add_block] at this | exact this) GW278.out)) | (show (Addr.add _ _).block ≠ _; rw [add_block]; exact Nat.ne_of_lt (Nat.lt_of_lt_of_le (by have := World.block_lt_of_cell? _ _ hw272_2; first | rwa [add_block] at this | exact this) GW278.out)) | (dsimp only; exact Nat.ne_of_lt (Nat.lt_of_lt_of_le (by have := World.block_lt_of_cell? _ _ hw272_2; first | rwa [add_block] at this | exact this) GW278.out))) _).trans (((cell_far (p := ⟨gb278, _, none⟩) (by first | exact Nat.ne_of_lt (Nat.lt_of_lt_of_le (by have := World.block_lt_of_cell? _ _ hw272_2; first | rwa [add_block] at this | exact this) GW278.out) | (rw [add_block]; exact Nat.ne_of_lt (Nat.lt_of_lt_of_le (by have := World.block_lt_of_cell? _ _ hw272_2; first | rwa [add_block] at this | exact this) GW278.out)) | (show (Addr.add _ _).block ≠ _; rw [add_block]; exact Nat.ne_of_lt (Nat.lt_of_lt_of_le (by have := World.block_lt_of_cell? _ _ hw272_2; first | rwa [add_block] at this | exact this) GW278.out)) | (dsimp only; exact Nat.ne_of_lt (Nat.lt_of_lt_of_le (by have := World.block_lt_of_cell? _ _ hw272_2; first | rwa [add_block] at this | exact this) GW278.out))) _).trans (((cell_far (p := ⟨gb278, _, none⟩) (by first | exact Nat.ne_of_lt (Nat.lt_of_lt_of_le (by have := World.block_lt_of_cell? _ _ hw272_2; first | rwa [add_block] at this | exact this) GW278.out) | (rw [add_block]; exact Nat.ne_of_lt (Nat.lt_of_lt_of_le (by have := World.block_lt_of_cell? _ _ hw272_2; first | rwa [add_block] at this | exact this) GW278.out)) | (show (Addr.add _ _).block ≠ _; rw [add_block]; exact Nat.ne_of_lt (Nat.lt_of_lt_of_le (by have := World.block_lt_of_cell? _ _ hw272_2; first | rwa [add_block] at this | exact this) GW278.out)) | (dsimp only; exact Nat.ne_of_lt (Nat.lt_of_lt_of_le (by have := World.block_lt_of_cell? _ _ hw272_2; first | rwa [add_block] at this | exact this) GW278.out))) _).trans (((cell_far (p := ⟨gb278, _, none⟩) (by first | exact Nat.ne_of_lt (Nat.lt_of_lt_of_le (by have := World.block_lt_of_cell? _ _ hw272_2; first | rwa [add_block] at this | exact this) GW278.out) | (rw [add_block]; exact Nat.ne_of_lt (Nat.lt_of_lt_of_le (by have := World.block_lt_of_cell? _ _ hw272_2; first | rwa [add_block] at this | exact this) GW278.out)) | (show (Addr.add _ _).block ≠ _; rw [add_block]; exact Nat.ne_of_lt (Nat.lt_of_lt_of_le (by have := World.block_lt_of_cell? _ _ hw272_2; first | rwa [add_block] at this | exact this) GW278.out)) | (dsimp only; exact Nat.ne_of_lt (Nat.lt_of_lt_of_le (by have := World.block_lt_of_cell? _ _ hw272_2; first | rwa [add_block] at this | exact this) GW278.out))) _).trans (hHeld.2.2.2.2.2.2.2.2.2.2.2.2.2.2))))))))⟩ (fun hHeld => ?_)
                  clear hK K
                  refine pure_ (i := 12) (N := some 12) (v := ?_) (a' := ?_) #[true, true, true, true, true, true, true, true, true, true, true, true, true] rfl rfl (any_of HT_.out (by kernel_rfl)) (fun _ _ _ h => h) (Or.inl ⟨by rfl, ?_⟩) ?_ ?_
                  rotate_left
                  · intro w'
                    go_simp
                    with_reducible rfl
                  rotate_left
                  · simp only [Act.put, List.setIfInBounds_toArray, List.set_cons_zero, List.set_cons_succ, i64_w, i32_w]
                    rfl
                  refine done_ (done_of HT_.out (by kernel_rfl)) ?_
                  try go_wp2
                  go_roundg k2
                  case measure => have := HJ4.out; have := HK2.out; omega
                  case rel => exact ⟨(x5_2), (x8_2), (x9_2), (wrap64 (x10_2 + 1)), (x272000_2), (x272001_2), (x272002_2), (x272003_2), (by first | rfl | (simp; done) | (simp [*]; done)), (by first | rfl | (simp; done) | (simp [*]; done)), (by first | rfl | (simp; done) | (simp [*]; done)), (by first | rfl | (simp; done) | (simp [*]; done)), H', ⟨by have := HJ4.out; have := HK2.out; omega⟩, ⟨by (with_reducible repeat (first | refine blk_drewN ?_ _ | refine blk_drew ?_ | refine blk_alloc ?_ _)); refine blk_far ?_ NB265_278.out _; (with_reducible repeat (first | refine blk_drewN ?_ _ | refine blk_drew ?_ | refine blk_alloc ?_ _)); refine blk_far ?_ NB265_278.out _; (with_reducible repeat (first | refine blk_drewN ?_ _ | refine blk_drew ?_ | refine blk_alloc ?_ _)); refine blk_far ?_ NB265_278.out _; (with_reducible repeat (first | refine blk_drewN ?_ _ | refine blk_drew ?_ | refine blk_alloc ?_ _)); refine blk_far ?_ NB265_278.out _; (with_reducible repeat (first | refine blk_drewN ?_ _ | refine blk_drew ?_ | refine blk_alloc ?_ _)); exact BK265.out⟩, ⟨by (with_reducible repeat (first | refine blk_drewN ?_ _ | refine blk_drew ?_ | refine blk_alloc ?_ _)); refine blk_far ?_ NB271_278.out _; (with_reducible repeat (first | refine blk_drewN ?_ _ | refine blk_drew ?_ | refine blk_alloc ?_ _)); refine blk_far ?_ NB271_278.out _; (with_reducible repeat (first | refine blk_drewN ?_ _ | refine blk_drew ?_ | refine blk_alloc ?_ _)); refine blk_far ?_ NB271_278.out _; (with_reducible repeat (first | refine blk_drewN ?_ _ | refine blk_drew ?_ | refine blk_alloc ?_ _)); refine blk_far ?_ NB271_278.out _; (with_reducible repeat (first | refine blk_drewN ?_ _ | refine blk_drew ?_ | refine blk_alloc ?_ _)); exact BK271.out⟩, ⟨by repeat (first | (with_reducible first | exact HB.out | apply below_alloc | apply pw_below_drewN | apply below_drew1 | refine below_set ?_ GE265.out | refine below_set ?_ GE271.out | refine below_set ?_ GE278.out) | exact HB.out)⟩⟩
              · rw [if_neg c18] at H
                exact absurd H (by simp)
            · rw [if_neg c17] at H
              have c17b0 : decide (x10_2 < (l1.length : Int)) = false := decide_eq_false c17
              clear c17
              obtain rfl := Option.some.inj H
              simp only [Option.some.injEq, Prod.mk.injEq] at H
              obtain ⟨rfl⟩ := H
              go_wp2
              go_ret
              exact ⟨by first | rfl | (simp [errW_none, errW_some] <;> rfl) | (simp [*, errW_none, errW_some] <;> rfl), by repeat (first | (with_reducible first | exact HB.out | apply below_alloc | apply pw_below_drewN | apply below_drew1 | refine below_set ?_ GE265.out | refine below_set ?_ GE271.out) | exact HB.out)⟩

end Go.Proofs.YtnfanhnflcjphaaDoor.PAll
