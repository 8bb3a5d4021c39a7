/- What the Go functions of this seat's laws return, told as Lean functions and proved by their walks; laid by a program of this session out of Lean's own print of the translation. No conditions of its own. -/
import Derived.Test.YtnfanhnflcjphaaDoorPAllx0
import Derived.Test.YtnfanhnflcjphaaDoorPAllx3
import Derived.Test.YtnfanhnflcjphaaDoorPAllx4
import Derived.Test.YtnfanhnflcjphaaDoorPAllx6
import Derived.Test.YtnfanhnflcjphaaDoorPAllx7
namespace Go.Proofs.YtnfanhnflcjphaaDoor.PAll
open Go.RowKit Go.Proofs.YtnfanhnflcjphaaDoorW.PrintWords Go.Proofs.YtnfanhnflcjphaaDoorW.PrintLast Go.Proofs.YtnfanhnflcjphaaDoorW.PrintMore
attribute [local go_sem] max2_int min2_int max_two min_two max_three min_three max_four min_four   -- for this text's walks alone
set_option linter.unusedVariables false
set_option linter.unusedSimpArgs false

/-! ### chargeparklaw12_ChargerOrder: function 4 -/
mutual
def chargeparklaw12_ChargerOrder.j0 : Nat → List (S27) → Bool → Bool → ByteArray → Int → Int → Int → Int → Int → Int → Int → Option (Bool)
  | 0, _, _, _, _, _, _, _, _, _, _, _ => none
  | k + 1, x1, x5, x21, x250000, x250001, x250002, x250003, x250004, x250005, x250006, x250007 => if x21 = true then (some x5) else ((charger_Start.f).bind fun _ => (chargeparklaw12_ChargerOrder.l0 k x1 x5 0 0 x250000 x250001 x250002 x250003 x250004 x250005 x250006 x250007 0 0 0 false))
def chargeparklaw12_ChargerOrder.l0 : Nat → List (S27) → Bool → Int → Int → ByteArray → Int → Int → Int → Int → Int → Int → Int → Int → Int → Int → Bool → Option (Bool)
  | 0, _, _, _, _, _, _, _, _, _, _, _, _, _, _, _, _ => none
  | k + 1, x1, x5, x8, x9, x250000, x250001, x250002, x250003, x250004, x250005, x250006, x250007, x256000, x256001, x256002, x256003 => if x9 < (x1.length : Int) then (if 0 ≤ x9 then ((charger_Step.f x250000 x250001 x250002 x250003 x250004 x250005 x250006 x250007 x256000 x256001 x256002 x256003 ((rd_T27 x1 x9).f0) ((rd_T27 x1 x9).f1) ((rd_T27 x1 x9).f2)).bind fun bt257 => (if bt257.2.2.2.2 = 0 then (if ((rd_T27 x1 x9).f0) = 1 then (chargeparklaw12_ChargerOrder.j3 k x1 x5 1 x9 x250000 x250001 x250002 x250003 x250004 x250005 x250006 x250007 bt257.1 bt257.2.1 bt257.2.2.1 bt257.2.2.2.1) else (if ((rd_T27 x1 x9).f0) = 3 then (if x8 = 1 then (chargeparklaw12_ChargerOrder.j3 k x1 x5 2 x9 x250000 x250001 x250002 x250003 x250004 x250005 x250006 x250007 bt257.1 bt257.2.1 bt257.2.2.1 bt257.2.2.2.1) else (chargeparklaw12_ChargerOrder.j3 k x1 x5 x8 x9 x250000 x250001 x250002 x250003 x250004 x250005 x250006 x250007 bt257.1 bt257.2.1 bt257.2.2.1 bt257.2.2.2.1)) else (if ((rd_T27 x1 x9).f0) = 4 then (if x8 = 2 then (if ((rd_T27 x1 x9).f1) = 1 then (chargeparklaw12_ChargerOrder.j3 k x1 x5 3 x9 x250000 x250001 x250002 x250003 x250004 x250005 x250006 x250007 bt257.1 bt257.2.1 bt257.2.2.1 bt257.2.2.2.1) else (chargeparklaw12_ChargerOrder.j3 k x1 x5 0 x9 x250000 x250001 x250002 x250003 x250004 x250005 x250006 x250007 bt257.1 bt257.2.1 bt257.2.2.1 bt257.2.2.2.1)) else (chargeparklaw12_ChargerOrder.j3 k x1 x5 0 x9 x250000 x250001 x250002 x250003 x250004 x250005 x250006 x250007 bt257.1 bt257.2.1 bt257.2.2.1 bt257.2.2.2.1)) else (if ((rd_T27 x1 x9).f0) = 5 then (if x8 = 3 then (chargeparklaw12_ChargerOrder.j3 k x1 x5 4 x9 x250000 x250001 x250002 x250003 x250004 x250005 x250006 x250007 bt257.1 bt257.2.1 bt257.2.2.1 bt257.2.2.2.1) else (chargeparklaw12_ChargerOrder.j3 k x1 x5 x8 x9 x250000 x250001 x250002 x250003 x250004 x250005 x250006 x250007 bt257.1 bt257.2.1 bt257.2.2.1 bt257.2.2.2.1)) else (if ((rd_T27 x1 x9).f0) = 6 then (chargeparklaw12_ChargerOrder.j2 k x1 x5 x8 x9 (((rd_T27 x1 x9).f0) == 6) x250000 x250001 x250002 x250003 x250004 x250005 x250006 x250007 bt257.1 bt257.2.1 bt257.2.2.1 bt257.2.2.2.1) else (if ((rd_T27 x1 x9).f0) = 2 then (chargeparklaw12_ChargerOrder.j2 k x1 x5 x8 x9 (((rd_T27 x1 x9).f0) == 2) x250000 x250001 x250002 x250003 x250004 x250005 x250006 x250007 bt257.1 bt257.2.1 bt257.2.2.1 bt257.2.2.2.1) else (chargeparklaw12_ChargerOrder.j2 k x1 x5 x8 x9 (((rd_T27 x1 x9).f0) == 9) x250000 x250001 x250002 x250003 x250004 x250005 x250006 x250007 bt257.1 bt257.2.1 bt257.2.2.1 bt257.2.2.2.1))))))) else (chargeparklaw12_ChargerOrder.l0 k x1 x5 x8 (wrap64 (x9 + 1)) x250000 x250001 x250002 x250003 x250004 x250005 x250006 x250007 x256000 x256001 x256002 x256003))) else (none)) else (some x5)
def chargeparklaw12_ChargerOrder.j3 : Nat → List (S27) → Bool → Int → Int → ByteArray → Int → Int → Int → Int → Int → Int → Int → Int → Int → Int → Bool → Option (Bool)
  | 0, _, _, _, _, _, _, _, _, _, _, _, _, _, _, _, _ => none
  | k + 1, x1, x5, x8, x9, x250000, x250001, x250002, x250003, x250004, x250005, x250006, x250007, x256000, x256001, x256002, x256003 => if x5 = true then (chargeparklaw12_ChargerOrder.l0 k x1 ((x256000 == 4) == (x8 == 4)) x8 (wrap64 (x9 + 1)) x250000 x250001 x250002 x250003 x250004 x250005 x250006 x250007 x256000 x256001 x256002 x256003) else (chargeparklaw12_ChargerOrder.l0 k x1 false x8 (wrap64 (x9 + 1)) x250000 x250001 x250002 x250003 x250004 x250005 x250006 x250007 x256000 x256001 x256002 x256003)
def chargeparklaw12_ChargerOrder.j2 : Nat → List (S27) → Bool → Int → Int → Bool → ByteArray → Int → Int → Int → Int → Int → Int → Int → Int → Int → Int → Bool → Option (Bool)
  | 0, _, _, _, _, _, _, _, _, _, _, _, _, _, _, _, _, _ => none
  | k + 1, x1, x5, x8, x9, x70, x250000, x250001, x250002, x250003, x250004, x250005, x250006, x250007, x256000, x256001, x256002, x256003 => if x70 = true then (if x256000 = 1 then (chargeparklaw12_ChargerOrder.j3 k x1 x5 1 x9 x250000 x250001 x250002 x250003 x250004 x250005 x250006 x250007 x256000 x256001 x256002 x256003) else (chargeparklaw12_ChargerOrder.j3 k x1 x5 0 x9 x250000 x250001 x250002 x250003 x250004 x250005 x250006 x250007 x256000 x256001 x256002 x256003)) else (chargeparklaw12_ChargerOrder.j3 k x1 x5 x8 x9 x250000 x250001 x250002 x250003 x250004 x250005 x250006 x250007 x256000 x256001 x256002 x256003)
end
def chargeparklaw12_ChargerOrder.f (k : Nat) (a0_0 : ByteArray) (a0_1 : Int) (a0_2 : Int) (a0_3 : Int) (a0_4 : Int) (a0_5 : Int) (a0_6 : Int) (a0_7 : Int) (l1 : List (S27)) : Option (Bool) := (chargeparklaw12_head_c.f).bind fun _ => ((chargeparkref12_Charger.f a0_0 a0_1 a0_2 a0_3 a0_4 a0_5 a0_6 a0_7).bind fun t250 => (if t250 = true then (chargeparklaw12_ChargerOrder.j0 k l1 true (decide ((l1.length : Int) > 100)) a0_0 a0_1 a0_2 a0_3 a0_4 a0_5 a0_6 a0_7) else (chargeparklaw12_ChargerOrder.j0 k l1 true true a0_0 a0_1 a0_2 a0_3 a0_4 a0_5 a0_6 a0_7)))
theorem chargeparklaw12_ChargerOrder.mono_l : ∀ k, (∀ y0 y1 y2 y3 y4 y5 y6 y7 y8 y9 y10, LeO (chargeparklaw12_ChargerOrder.j0 k y0 y1 y2 y3 y4 y5 y6 y7 y8 y9 y10) (chargeparklaw12_ChargerOrder.j0 (k + 1) y0 y1 y2 y3 y4 y5 y6 y7 y8 y9 y10)) ∧ (∀ y0 y1 y2 y3 y4 y5 y6 y7 y8 y9 y10 y11 y12 y13 y14 y15, LeO (chargeparklaw12_ChargerOrder.l0 k y0 y1 y2 y3 y4 y5 y6 y7 y8 y9 y10 y11 y12 y13 y14 y15) (chargeparklaw12_ChargerOrder.l0 (k + 1) y0 y1 y2 y3 y4 y5 y6 y7 y8 y9 y10 y11 y12 y13 y14 y15)) ∧ (∀ y0 y1 y2 y3 y4 y5 y6 y7 y8 y9 y10 y11 y12 y13 y14 y15, LeO (chargeparklaw12_ChargerOrder.j3 k y0 y1 y2 y3 y4 y5 y6 y7 y8 y9 y10 y11 y12 y13 y14 y15) (chargeparklaw12_ChargerOrder.j3 (k + 1) y0 y1 y2 y3 y4 y5 y6 y7 y8 y9 y10 y11 y12 y13 y14 y15)) ∧ (∀ y0 y1 y2 y3 y4 y5 y6 y7 y8 y9 y10 y11 y12 y13 y14 y15 y16, LeO (chargeparklaw12_ChargerOrder.j2 k y0 y1 y2 y3 y4 y5 y6 y7 y8 y9 y10 y11 y12 y13 y14 y15 y16) (chargeparklaw12_ChargerOrder.j2 (k + 1) y0 y1 y2 y3 y4 y5 y6 y7 y8 y9 y10 y11 y12 y13 y14 y15 y16))
  | 0 => ⟨fun _ _ _ _ _ _ _ _ _ _ _ r h => by simp [chargeparklaw12_ChargerOrder.j0] at h, fun _ _ _ _ _ _ _ _ _ _ _ _ _ _ _ _ r h => by simp [chargeparklaw12_ChargerOrder.l0] at h, fun _ _ _ _ _ _ _ _ _ _ _ _ _ _ _ _ r h => by simp [chargeparklaw12_ChargerOrder.j3] at h, fun _ _ _ _ _ _ _ _ _ _ _ _ _ _ _ _ _ r h => by simp [chargeparklaw12_ChargerOrder.j2] at h⟩
  | k + 1 => by
    obtain ⟨ih0, ih1, ih2, ih3⟩ := chargeparklaw12_ChargerOrder.mono_l k
    refine ⟨?_, ?_, ?_, ?_⟩
    · intro y0 y1 y2 y3 y4 y5 y6 y7 y8 y9 y10
      unfold chargeparklaw12_ChargerOrder.j0
      repeat' first
      | (with_reducible exact ih0 _ _ _ _ _ _ _ _ _ _ _)
      | (with_reducible exact ih1 _ _ _ _ _ _ _ _ _ _ _ _ _ _ _ _)
      | (with_reducible exact ih2 _ _ _ _ _ _ _ _ _ _ _ _ _ _ _ _)
      | (with_reducible exact ih3 _ _ _ _ _ _ _ _ _ _ _ _ _ _ _ _ _)
      | (with_reducible exact LeO.refl _)
      | (with_reducible exact LeO.none _)
      | (with_reducible refine LeO.ite ?_ ?_)
      | (with_reducible refine LeO.bind ?_ (fun _ => ?_))
      | exact ih0 _ _ _ _ _ _ _ _ _ _ _
      | exact ih1 _ _ _ _ _ _ _ _ _ _ _ _ _ _ _ _
      | exact ih2 _ _ _ _ _ _ _ _ _ _ _ _ _ _ _ _
      | exact ih3 _ _ _ _ _ _ _ _ _ _ _ _ _ _ _ _ _
      | exact LeO.none _
      | refine LeO.ite ?_ ?_
      | refine LeO.bind ?_ (fun _ => ?_)
    · intro y0 y1 y2 y3 y4 y5 y6 y7 y8 y9 y10 y11 y12 y13 y14 y15
      unfold chargeparklaw12_ChargerOrder.l0
      repeat' first
      | (with_reducible exact ih0 _ _ _ _ _ _ _ _ _ _ _)
      | (with_reducible exact ih1 _ _ _ _ _ _ _ _ _ _ _ _ _ _ _ _)
      | (with_reducible exact ih2 _ _ _ _ _ _ _ _ _ _ _ _ _ _ _ _)
      | (with_reducible exact ih3 _ _ _ _ _ _ _ _ _ _ _ _ _ _ _ _ _)
      | (with_reducible exact LeO.refl _)
      | (with_reducible exact LeO.none _)
      | (with_reducible refine LeO.ite ?_ ?_)
      | (with_reducible refine LeO.bind ?_ (fun _ => ?_))
      | exact ih0 _ _ _ _ _ _ _ _ _ _ _
      | exact ih1 _ _ _ _ _ _ _ _ _ _ _ _ _ _ _ _
      | exact ih2 _ _ _ _ _ _ _ _ _ _ _ _ _ _ _ _
      | exact ih3 _ _ _ _ _ _ _ _ _ _ _ _ _ _ _ _ _
      | exact LeO.none _
      | refine LeO.ite ?_ ?_
      | refine LeO.bind ?_ (fun _ => ?_)
    · intro y0 y1 y2 y3 y4 y5 y6 y7 y8 y9 y10 y11 y12 y13 y14 y15
      unfold chargeparklaw12_ChargerOrder.j3
      repeat' first
      | (with_reducible exact ih0 _ _ _ _ _ _ _ _ _ _ _)
      | (with_reducible exact ih1 _ _ _ _ _ _ _ _ _ _ _ _ _ _ _ _)
      | (with_reducible exact ih2 _ _ _ _ _ _ _ _ _ _ _ _ _ _ _ _)
      | (with_reducible exact ih3 _ _ _ _ _ _ _ _ _ _ _ _ _ _ _ _ _)
      | (with_reducible exact LeO.refl _)
      | (with_reducible exact LeO.none _)
      | (with_reducible refine LeO.ite ?_ ?_)
      | (with_reducible refine LeO.bind ?_ (fun _ => ?_))
      | exact ih0 _ _ _ _ _ _ _ _ _ _ _
      | exact ih1 _ _ _ _ _ _ _ _ _ _ _ _ _ _ _ _
      | exact ih2 _ _ _ _ _ _ _ _ _ _ _ _ _ _ _ _
      | exact ih3 _ _ _ _ _ _ _ _ _ _ _ _ _ _ _ _ _
      | exact LeO.none _
      | refine LeO.ite ?_ ?_
      | refine LeO.bind ?_ (fun _ => ?_)
    · intro y0 y1 y2 y3 y4 y5 y6 y7 y8 y9 y10 y11 y12 y13 y14 y15 y16
      unfold chargeparklaw12_ChargerOrder.j2
      repeat' first
      | (with_reducible exact ih0 _ _ _ _ _ _ _ _ _ _ _)
      | (with_reducible exact ih1 _ _ _ _ _ _ _ _ _ _ _ _ _ _ _ _)
      | (with_reducible exact ih2 _ _ _ _ _ _ _ _ _ _ _ _ _ _ _ _)
      | (with_reducible exact ih3 _ _ _ _ _ _ _ _ _ _ _ _ _ _ _ _ _)
      | (with_reducible exact LeO.refl _)
      | (with_reducible exact LeO.none _)
      | (with_reducible refine LeO.ite ?_ ?_)
      | (with_reducible refine LeO.bind ?_ (fun _ => ?_))
      | exact ih0 _ _ _ _ _ _ _ _ _ _ _
      | exact ih1 _ _ _ _ _ _ _ _ _ _ _ _ _ _ _ _
      | exact ih2 _ _ _ _ _ _ _ _ _ _ _ _ _ _ _ _
      | exact ih3 _ _ _ _ _ _ _ _ _ _ _ _ _ _ _ _ _
      | exact LeO.none _
      | refine LeO.ite ?_ ?_
      | refine LeO.bind ?_ (fun _ => ?_)
theorem chargeparklaw12_ChargerOrder.mono : ∀ a0 a1 a2 a3 a4 a5 a6 a7 a8 k, LeO (chargeparklaw12_ChargerOrder.f k a0 a1 a2 a3 a4 a5 a6 a7 a8) (chargeparklaw12_ChargerOrder.f (k + 1) a0 a1 a2 a3 a4 a5 a6 a7 a8) := by
  intro a0 a1 a2 a3 a4 a5 a6 a7 a8 k
  obtain ⟨ih0, ih1, ih2, ih3⟩ := chargeparklaw12_ChargerOrder.mono_l k
  unfold chargeparklaw12_ChargerOrder.f
  repeat' first
      | (with_reducible exact ih0 _ _ _ _ _ _ _ _ _ _ _)
      | (with_reducible exact ih1 _ _ _ _ _ _ _ _ _ _ _ _ _ _ _ _)
      | (with_reducible exact ih2 _ _ _ _ _ _ _ _ _ _ _ _ _ _ _ _)
      | (with_reducible exact ih3 _ _ _ _ _ _ _ _ _ _ _ _ _ _ _ _ _)
      | (with_reducible exact LeO.refl _)
      | (with_reducible exact LeO.none _)
      | (with_reducible refine LeO.ite ?_ ?_)
      | (with_reducible refine LeO.bind ?_ (fun _ => ?_))
      | exact ih0 _ _ _ _ _ _ _ _ _ _ _
      | exact ih1 _ _ _ _ _ _ _ _ _ _ _ _ _ _ _ _
      | exact ih2 _ _ _ _ _ _ _ _ _ _ _ _ _ _ _ _
      | exact ih3 _ _ _ _ _ _ _ _ _ _ _ _ _ _ _ _ _
      | exact LeO.none _
      | refine LeO.ite ?_ ?_
      | refine LeO.bind ?_ (fun _ => ?_)
def chargeparklaw12_ChargerOrder.T10 : Bool × List (List Nat × List Nat) := (true, [([], []), ([], []), ([], []), ([], []), ([2, 3], [2, 3]), ([4], [4]), ([0, 1, 5], [0, 1, 5]), ([6], [6]), ([7], [7]), ([7], [7]), ([], []), ([10, 8, 6, 0, 1, 2, 3, 4, 5, 6, 7, 8, 10], [8, 10]), ([9, 11, 0, 1, 2, 3, 4, 5, 6, 7, 8, 9, 10, 11], [9])])
def chargeparklaw12_ChargerOrder.B10 : List Nat := [0, 0, 0, 0, 12, 28, 63, 127, 255, 255, 0, 1535, 4095]
theorem chargeparklaw12_ChargerOrder.tab10 : rtab .any (opsOf Tryd.f4 10) = chargeparklaw12_ChargerOrder.T10 := by kernel_rfl
theorem chargeparklaw12_ChargerOrder.bits10 : waitsOk chargeparklaw12_ChargerOrder.T10.2 chargeparklaw12_ChargerOrder.B10 = true := by kernel_rfl
set_option maxHeartbeats 8000000 in
set_option maxRecDepth 100000 in
theorem chargeparklaw12_ChargerOrder.calls (k : Nat) (a0_0 : ByteArray) (a0_1 : Int) (a0_2 : Int) (a0_3 : Int) (a0_4 : Int) (a0_5 : Int) (a0_6 : Int) (a0_7 : Int) (A1 : Option Addr) (c1 : Nat) (l1 : List (S27)) (r : Bool) (w : World) (hG : Hand.G w) (hr1 : Kd.C k27 w A1 l1.length l1) (hc1 : l1.length ≤ c1) (h : chargeparklaw12_ChargerOrder.f k a0_0 a0_1 a0_2 a0_3 a0_4 a0_5 a0_6 a0_7 l1 = some r) (hr : Aside0 (r = true)) :
    Calls Tryd.prog 4 #[.agg #[.string a0_0, .int .i64 a0_1, .int .i64 a0_2, .int .i64 a0_3, .int .i64 a0_4, .int .i64 a0_5, .int .i64 a0_6, .int .i64 a0_7], .slice A1 l1.length c1] w fun e w' => e = .returned (.bool r) ∧ Below w.heap.size w w' := by
  have hu23 := Tryd.underlying23
  have hu25 := Tryd.underlying25
  have hu27 := Tryd.underlying27
  have HR1 := Aside0.mk hr1
  have HC1 := Aside0.mk hc1
  clear hr1 hc1
  have HB := Aside0.mk (Below.refl w.heap.size w)
  have H : ((chargeparklaw12_head_c.f).bind fun _ => ((chargeparkref12_Charger.f a0_0 a0_1 a0_2 a0_3 a0_4 a0_5 a0_6 a0_7).bind fun t250 => (if t250 = true then (chargeparklaw12_ChargerOrder.j0 k l1 true (decide ((l1.length : Int) > 100)) a0_0 a0_1 a0_2 a0_3 a0_4 a0_5 a0_6 a0_7) else (chargeparklaw12_ChargerOrder.j0 k l1 true true a0_0 a0_1 a0_2 a0_3 a0_4 a0_5 a0_6 a0_7)))) = some r := h
  clear h
  replace H := Option.bind_eq_some_iff.mp H
  obtain ⟨tc_, A30, H⟩ := H
  obtain rfl : true = tc_ := Option.some.inj ((show chargeparklaw12_head_c.f = some true by kernel_rfl).symm.trans A30)
  replace H : ((chargeparkref12_Charger.f a0_0 a0_1 a0_2 a0_3 a0_4 a0_5 a0_6 a0_7).bind fun t250 => (if t250 = true then (chargeparklaw12_ChargerOrder.j0 k l1 true (decide ((l1.length : Int) > 100)) a0_0 a0_1 a0_2 a0_3 a0_4 a0_5 a0_6 a0_7) else (chargeparklaw12_ChargerOrder.j0 k l1 true true a0_0 a0_1 a0_2 a0_3 a0_4 a0_5 a0_6 a0_7))) = some r := H
  have A3 := Aside0.mk A30
  clear A30
  replace H := Option.bind_eq_some_iff.mp H
  obtain ⟨t250, A40, H⟩ := H
  replace H : (if t250 = true then (chargeparklaw12_ChargerOrder.j0 k l1 true (decide ((l1.length : Int) > 100)) a0_0 a0_1 a0_2 a0_3 a0_4 a0_5 a0_6 a0_7) else (chargeparklaw12_ChargerOrder.j0 k l1 true true a0_0 a0_1 a0_2 a0_3 a0_4 a0_5 a0_6 a0_7)) = some r := H
  have A4 := Aside0.mk A40
  clear A40
  have HC5 := Aside0.mk H
  clear H
  go_enter Tryd.func4, Tryd.ntmps4
  go_upto_region 3 with (first | ((with_reducible refine gate_dst (N := 2) rfl ?_); (try (refine gate_guard (by rfl) ?_; dsimp only)); refine box_event ?hg (N := 2) ?hd (cs := #[.string a0_0, .int .i64 a0_1, .int .i64 a0_2, .int .i64 a0_3, .int .i64 a0_4, .int .i64 a0_5, .int .i64 a0_6, .int .i64 a0_7]) (t := 23) ?hr ?_; (case hd => rfl); (case hg => rfl); (case hr => first | (go_simp; done) | (go_simp; rfl)); intro gb249 hg w6 hbox hb; have n0_ := Aside0.mk (below_step (by repeat (first | (with_reducible first | exact HB.out | apply below_alloc | apply pw_below_drewN | apply below_drew1) | exact HB.out)) hb); have n1_ := Aside0.mk (hbox); have n2_ := Aside0.mk ((by rw [hg]; exact (below_size (by repeat (first | (with_reducible first | exact HB.out | apply below_alloc | apply pw_below_drewN | apply below_drew1) | exact HB.out))) : w.heap.size ≤ gb249)); have n3_ := Aside0.mk ((by rw [hg]; exact (below_size (by repeat (first | (with_reducible first | exact HB.out | apply below_alloc | apply pw_below_drewN | apply below_drew1) | exact HB.out))) : w.heap.size ≤ gb249)); clear HB; have HB := n0_; have BK249 := n1_; have GW249 := n2_; have GE249 := n3_; clear n0_ n1_ n2_ n3_; clear hb hbox hg) | ((with_reducible refine gate_callee (f := 10) rfl ?_); refine goesL_ (some 12) rfl rfl Tryd.func10 (by kernel_rfl) rfl #[] rfl (by (try simp only [List.map_toArray, List.map_cons, List.map_nil]); first | done | rfl | (simp only [List.length_drop, List.length_take]; rfl)) ?_; (with_reducible refine (chargeparklaw12_head_c.calls  true _ (hG.below (by repeat (first | (with_reducible first | exact HB.out | apply below_alloc | apply pw_below_drewN | apply below_drew1) | exact HB.out | (refine Below.setCell ?_ (Aside0.out (by assumption)) _)))) A3.out).mono ?_); rintro e w7 ⟨rfl, hb⟩; refine ⟨_, rfl, ?_⟩; have n0_ := Aside0.mk (blk_below (g := gb249) (o := .cells #[.string a0_0, .int .i64 a0_1, .int .i64 a0_2, .int .i64 a0_3, .int .i64 a0_4, .int .i64 a0_5, .int .i64 a0_6, .int .i64 a0_7] 23 (0, 0)) (by (with_reducible repeat (first | refine blk_drewN ?_ _ | refine blk_drew ?_ | refine blk_alloc ?_ _)); exact BK249.out) hb); have n1_ := Aside0.mk (below_step (by repeat (first | (with_reducible first | exact HB.out | apply below_alloc | apply pw_below_drewN | apply below_drew1 | refine below_set ?_ GE249.out) | exact HB.out)) hb); clear BK249; clear HB; have BK249 := n0_; have HB := n1_; clear n0_ n1_; (try clear hb); (try clear hb2); (try clear hk); (try clear hi); have hcz8_0 : w7.cell? ⟨gb249, 0, none⟩ = some (.string a0_0) := (blk_cell BK249.out 0).trans rfl; have hcz8_1 : w7.cell? ⟨gb249, 1, none⟩ = some (.int .i64 a0_1) := (blk_cell BK249.out 1).trans rfl; have hcz8_2 : w7.cell? ⟨gb249, 2, none⟩ = some (.int .i64 a0_2) := (blk_cell BK249.out 2).trans rfl; have hcz8_3 : w7.cell? ⟨gb249, 3, none⟩ = some (.int .i64 a0_3) := (blk_cell BK249.out 3).trans rfl; have hcz8_4 : w7.cell? ⟨gb249, 4, none⟩ = some (.int .i64 a0_4) := (blk_cell BK249.out 4).trans rfl; have hcz8_5 : w7.cell? ⟨gb249, 5, none⟩ = some (.int .i64 a0_5) := (blk_cell BK249.out 5).trans rfl; have hcz8_6 : w7.cell? ⟨gb249, 6, none⟩ = some (.int .i64 a0_6) := (blk_cell BK249.out 6).trans rfl; have hcz8_7 : w7.cell? ⟨gb249, 7, none⟩ = some (.int .i64 a0_7) := (blk_cell BK249.out 7).trans rfl; have hfz8_0 := blk_frozen BK249.out 0; have hfz8_1 := blk_frozen BK249.out 1; have hfz8_2 := blk_frozen BK249.out 2; have hfz8_3 := blk_frozen BK249.out 3; have hfz8_4 := blk_frozen BK249.out 4; have hfz8_5 := blk_frozen BK249.out 5; have hfz8_6 := blk_frozen BK249.out 6; have hfz8_7 := blk_frozen BK249.out 7) | ((with_reducible refine gate_callee (f := 18) rfl ?_); refine goesL_ (some 14) rfl rfl Tryd.func18 (by kernel_rfl) rfl #[.agg #[.string a0_0, .int .i64 a0_1, .int .i64 a0_2, .int .i64 a0_3, .int .i64 a0_4, .int .i64 a0_5, .int .i64 a0_6, .int .i64 a0_7]] rfl (by (try simp only [List.map_toArray, List.map_cons, List.map_nil]); first | done | rfl | (simp only [List.length_drop, List.length_take]; rfl)) ?_; (with_reducible refine (chargeparkref12_Charger.calls a0_0 a0_1 a0_2 a0_3 a0_4 a0_5 a0_6 a0_7 t250 _ A4.out).mono ?_); rintro e w9 ⟨rfl, hb⟩; refine ⟨_, rfl, ?_⟩; have n0_ := Aside0.mk (blk_below (g := gb249) (o := .cells #[.string a0_0, .int .i64 a0_1, .int .i64 a0_2, .int .i64 a0_3, .int .i64 a0_4, .int .i64 a0_5, .int .i64 a0_6, .int .i64 a0_7] 23 (0, 0)) (by (with_reducible repeat (first | refine blk_drewN ?_ _ | refine blk_drew ?_ | refine blk_alloc ?_ _)); exact BK249.out) hb); have n1_ := Aside0.mk (below_step (by repeat (first | (with_reducible first | exact HB.out | apply below_alloc | apply pw_below_drewN | apply below_drew1 | refine below_set ?_ GE249.out) | exact HB.out)) hb); clear BK249; clear HB; have BK249 := n0_; have HB := n1_; clear n0_ n1_; (try clear hb); (try clear hb2); (try clear hk); (try clear hi)))
  (try simp only [Act.put, List.setIfInBounds_toArray, List.set_cons_zero, List.set_cons_succ])
  go_cut [21] (fun v21 wc => ∃ (kq : Nat) (x21_4 : Bool), v21 = .bool x21_4 ∧ Aside0 (chargeparklaw12_ChargerOrder.j0 kq l1 true x21_4 a0_0 a0_1 a0_2 a0_3 a0_4 a0_5 a0_6 a0_7 = some r) ∧ Aside0 (kq ≤ k) ∧ Aside0 (wc.heap[gb249]? = some (.cells #[.string a0_0, .int .i64 a0_1, .int .i64 a0_2, .int .i64 a0_3, .int .i64 a0_4, .int .i64 a0_5, .int .i64 a0_6, .int .i64 a0_7] 23 (0, 0))) ∧ Aside0 (Below w.heap.size w wc))
  case first =>
    have H := HC5.out
    clear HC5
    by_cases c10 : t250 = true
    · subst c10
      have H1 : (chargeparklaw12_ChargerOrder.j0 k l1 true (decide ((l1.length : Int) > 100)) a0_0 a0_1 a0_2 a0_3 a0_4 a0_5 a0_6 a0_7) = some r := by rw [if_pos rfl] at H; exact H
      clear H
      have H := H1
      clear H1
      have H' := Aside0.mk H
      clear H
      go_wp2
      go_meet
      case rel => exact ⟨_, (decide ((l1.length : Int) > 100)), (by first | rfl | (simp; done) | (simp [*]; done)), H', ⟨by first | omega | exact Nat.le_refl _⟩, ⟨by (with_reducible repeat (first | refine blk_drewN ?_ _ | refine blk_drew ?_ | refine blk_alloc ?_ _)); exact BK249.out⟩, ⟨by repeat (first | (with_reducible first | exact HB.out | apply below_alloc | apply pw_below_drewN | apply below_drew1 | refine below_set ?_ GE249.out) | exact HB.out)⟩⟩
    · replace c10 := Bool.eq_false_iff.mpr c10
      subst c10
      have H1 : (chargeparklaw12_ChargerOrder.j0 k l1 true true a0_0 a0_1 a0_2 a0_3 a0_4 a0_5 a0_6 a0_7) = some r := by rw [if_neg (show ¬ (false = true) by decide)] at H; exact H
      clear H
      have H := H1
      clear H1
      have H' := Aside0.mk H
      clear H
      go_wp2
      go_meet
      case rel => exact ⟨_, (true), (by first | rfl | (simp; done) | (simp [*]; done)), H', ⟨by first | omega | exact Nat.le_refl _⟩, ⟨by (with_reducible repeat (first | refine blk_drewN ?_ _ | refine blk_drew ?_ | refine blk_alloc ?_ _)); exact BK249.out⟩, ⟨by repeat (first | (with_reducible first | exact HB.out | apply below_alloc | apply pw_below_drewN | apply below_drew1 | refine below_set ?_ GE249.out) | exact HB.out)⟩⟩
  case rest =>
    clear HC5
    try clear c1
    try clear p2
    try clear c4
    try clear c10
    try clear hcz8_0
    try clear hcz8_1
    try clear hcz8_2
    try clear hcz8_3
    try clear hcz8_4
    try clear hcz8_5
    try clear hcz8_6
    try clear hcz8_7
    try clear hfz8_0
    try clear hfz8_1
    try clear hfz8_2
    try clear hfz8_3
    try clear hfz8_4
    try clear hfz8_5
    try clear hfz8_6
    try clear hfz8_7
    obtain ⟨kq, x21_4, rfl, HA, HJ4, BK249, HB⟩ := hcut
    cases kq with
    | zero => exact absurd HA.out (by simp [chargeparklaw12_ChargerOrder.j0])
    | succ kj4 =>
      have H := HA.out
      clear HA
      simp only [chargeparklaw12_ChargerOrder.j0] at H
      by_cases c11 : x21_4 = true
      · subst c11
        have H1 : (some true) = some r := by rw [if_pos rfl] at H; exact H
        clear H
        have H := H1
        clear H1
        obtain rfl := Option.some.inj H
        simp only [Option.some.injEq, Prod.mk.injEq] at H
        obtain ⟨rfl⟩ := H
        go_wp2
        go_ret
        exact ⟨by first | rfl | (simp [errW_none, errW_some] <;> rfl) | (simp [*, errW_none, errW_some] <;> rfl), by repeat (first | (with_reducible first | exact HB.out | apply below_alloc | apply pw_below_drewN | apply below_drew1 | refine below_set ?_ GE249.out) | exact HB.out)⟩
      · replace c11 := Bool.eq_false_iff.mpr c11
        subst c11
        have H1 : ((charger_Start.f).bind fun _ => (chargeparklaw12_ChargerOrder.l0 kj4 l1 true 0 0 a0_0 a0_1 a0_2 a0_3 a0_4 a0_5 a0_6 a0_7 0 0 0 false)) = some r := by rw [if_neg (show ¬ (false = true) by decide)] at H; exact H
        clear H
        have H := H1
        clear H1
        replace H := Option.bind_eq_some_iff.mp H
        obtain ⟨tc_, A120, H⟩ := H
        obtain rfl : (0, 0, 0, false) = tc_ := Option.some.inj ((show charger_Start.f = some (0, 0, 0, false) by kernel_rfl).symm.trans A120)
        replace H : (chargeparklaw12_ChargerOrder.l0 kj4 l1 true 0 0 a0_0 a0_1 a0_2 a0_3 a0_4 a0_5 a0_6 a0_7 0 0 0 false) = some r := H
        have A12 := Aside0.mk A120
        clear A120
        have H' := Aside0.mk H
        clear H
        go_wp2_with (first | ((with_reducible refine gate_callee (f := 17) rfl ?_); refine goesL_ (some 23) rfl rfl Tryd.func17 (by kernel_rfl) rfl #[] rfl (by (try simp only [List.map_toArray, List.map_cons, List.map_nil]); first | done | rfl | (simp only [List.length_drop, List.length_take]; rfl)) ?_; (with_reducible refine (charger_Start.calls  0 0 0 false _ A12.out).mono ?_); rintro e w13 ⟨rfl, hb⟩; refine ⟨_, rfl, ?_⟩; have n0_ := Aside0.mk (blk_below (g := gb249) (o := .cells #[.string a0_0, .int .i64 a0_1, .int .i64 a0_2, .int .i64 a0_3, .int .i64 a0_4, .int .i64 a0_5, .int .i64 a0_6, .int .i64 a0_7] 23 (0, 0)) (by (with_reducible repeat (first | refine blk_drewN ?_ _ | refine blk_drew ?_ | refine blk_alloc ?_ _)); exact BK249.out) hb); have n1_ := Aside0.mk (below_step (by repeat (first | (with_reducible first | exact HB.out | apply below_alloc | apply pw_below_drewN | apply below_drew1 | refine below_set ?_ GE249.out) | exact HB.out)) hb); clear BK249; clear HB; have BK249 := n0_; have HB := n1_; clear n0_ n1_; (try clear hb); (try clear hb2); (try clear hk); (try clear hi)) | ((with_reducible refine gate_dst (N := 7) rfl ?_); (try (refine gate_guard (by rfl) ?_; dsimp only)); refine box_event ?hg (N := 7) ?hd (cs := #[.int .i64 0, .int .i64 0, .int .i64 0, .bool false]) (t := 25) ?hr ?_; (case hd => rfl); (case hg => rfl); (case hr => first | (go_simp; done) | (go_simp; rfl)); intro gb255 hg w14 hbox hb; have n0_ := Aside0.mk (blk_below (g := gb249) (o := .cells #[.string a0_0, .int .i64 a0_1, .int .i64 a0_2, .int .i64 a0_3, .int .i64 a0_4, .int .i64 a0_5, .int .i64 a0_6, .int .i64 a0_7] 23 (0, 0)) (by (with_reducible repeat (first | refine blk_drewN ?_ _ | refine blk_drew ?_ | refine blk_alloc ?_ _)); exact BK249.out) hb); have n1_ := Aside0.mk (below_step (by repeat (first | (with_reducible first | exact HB.out | apply below_alloc | apply pw_below_drewN | apply below_drew1 | refine below_set ?_ GE249.out) | exact HB.out)) hb); have n2_ := Aside0.mk (hbox); have n3_ := Aside0.mk ((by rw [hg]; exact (below_size (by repeat (first | (with_reducible first | exact HB.out | apply below_alloc | apply pw_below_drewN | apply below_drew1 | refine below_set ?_ GE249.out) | exact HB.out))) : w.heap.size ≤ gb255)); have n4_ := Aside0.mk ((by rw [hg]; exact (below_size (by repeat (first | (with_reducible first | exact HB.out | apply below_alloc | apply pw_below_drewN | apply below_drew1 | refine below_set ?_ GE249.out) | exact HB.out))) : w.heap.size ≤ gb255)); have n5_ := Aside0.mk ((by rw [hg]; exact Nat.ne_of_lt (blk_lt (g := gb249) (o := .cells #[.string a0_0, .int .i64 a0_1, .int .i64 a0_2, .int .i64 a0_3, .int .i64 a0_4, .int .i64 a0_5, .int .i64 a0_6, .int .i64 a0_7] 23 (0, 0)) (by (with_reducible repeat (first | refine blk_drewN ?_ _ | refine blk_drew ?_ | refine blk_alloc ?_ _)); exact BK249.out)) : gb249 ≠ gb255)); have n6_ := Aside0.mk ((by rw [hg]; exact Nat.ne_of_gt (blk_lt (g := gb249) (o := .cells #[.string a0_0, .int .i64 a0_1, .int .i64 a0_2, .int .i64 a0_3, .int .i64 a0_4, .int .i64 a0_5, .int .i64 a0_6, .int .i64 a0_7] 23 (0, 0)) (by (with_reducible repeat (first | refine blk_drewN ?_ _ | refine blk_drew ?_ | refine blk_alloc ?_ _)); exact BK249.out)) : gb255 ≠ gb249)); clear BK249; clear HB; have BK249 := n0_; have HB := n1_; have BK255 := n2_; have GW255 := n3_; have GE255 := n4_; have NB249_255 := n5_; have NB255_249 := n6_; clear n0_ n1_ n2_ n3_ n4_ n5_ n6_; clear hb hbox hg; have hnb15 := NB255_249.out; have hnc15 := NB249_255.out; have hcz16_0 : w14.cell? ⟨gb255, 0, none⟩ = some (.int .i64 0) := (blk_cell BK255.out 0).trans rfl; have hcz16_1 : w14.cell? ⟨gb255, 1, none⟩ = some (.int .i64 0) := (blk_cell BK255.out 1).trans rfl; have hcz16_2 : w14.cell? ⟨gb255, 2, none⟩ = some (.int .i64 0) := (blk_cell BK255.out 2).trans rfl; have hcz16_3 : w14.cell? ⟨gb255, 3, none⟩ = some (.bool false) := (blk_cell BK255.out 3).trans rfl; have hfz16_0 := blk_frozen BK255.out 0; have hfz16_1 := blk_frozen BK255.out 1; have hfz16_2 := blk_frozen BK255.out 2; have hfz16_3 := blk_frozen BK255.out 3))
        go_loopg [5, 8, 9] kj4 (fun kq v5 v8 v9 w' => ∃ (x5_2 : Bool) (x8_2 : Int) (x9_2 : Int) (x256000_2 : Int) (x256001_2 : Int) (x256002_2 : Int) (x256003_2 : Bool), v5 = .bool x5_2 ∧ v8 = .int .i64 x8_2 ∧ v9 = .int .i64 x9_2 ∧ Aside0 (chargeparklaw12_ChargerOrder.l0 kq l1 x5_2 x8_2 x9_2 a0_0 a0_1 a0_2 a0_3 a0_4 a0_5 a0_6 a0_7 x256000_2 x256001_2 x256002_2 x256003_2 = some r) ∧ Aside0 (kq ≤ kj4) ∧ Aside0 (w'.heap[gb249]? = some (.cells #[.string a0_0, .int .i64 a0_1, .int .i64 a0_2, .int .i64 a0_3, .int .i64 a0_4, .int .i64 a0_5, .int .i64 a0_6, .int .i64 a0_7] 23 (0, 0))) ∧ Aside0 (w'.heap[gb255]? = some (.cells #[.int .i64 x256000_2, .int .i64 x256001_2, .int .i64 x256002_2, .bool x256003_2] 25 (0, 0))) ∧ Aside0 (Below w.heap.size w w'))
        case atStart => exact ⟨(true), (0), (0), (0), (0), (0), (false), (by first | rfl | (simp; done) | (simp [*]; done)), (by first | rfl | (simp; done) | (simp [*]; done)), (by first | rfl | (simp; done) | (simp [*]; done)), H', ⟨Nat.le_refl _⟩, ⟨by (with_reducible repeat (first | refine blk_drewN ?_ _ | refine blk_drew ?_ | refine blk_alloc ?_ _)); refine blk_far ?_ NB249_255.out _; (with_reducible repeat (first | refine blk_drewN ?_ _ | refine blk_drew ?_ | refine blk_alloc ?_ _)); refine blk_far ?_ NB249_255.out _; (with_reducible repeat (first | refine blk_drewN ?_ _ | refine blk_drew ?_ | refine blk_alloc ?_ _)); refine blk_far ?_ NB249_255.out _; (with_reducible repeat (first | refine blk_drewN ?_ _ | refine blk_drew ?_ | refine blk_alloc ?_ _)); refine blk_far ?_ NB249_255.out _; (with_reducible repeat (first | refine blk_drewN ?_ _ | refine blk_drew ?_ | refine blk_alloc ?_ _)); exact BK249.out⟩, ⟨by (with_reducible repeat (first | refine blk_drewN ?_ _ | refine blk_drew ?_ | refine blk_alloc ?_ _)); refine blk_put (cs := #[.int .i64 0, .int .i64 0, .int .i64 0, .bool false]) ?_ 3 _ rfl; (with_reducible repeat (first | refine blk_drewN ?_ _ | refine blk_drew ?_ | refine blk_alloc ?_ _)); refine blk_put (cs := #[.int .i64 0, .int .i64 0, .int .i64 0, .bool false]) ?_ 2 _ rfl; (with_reducible repeat (first | refine blk_drewN ?_ _ | refine blk_drew ?_ | refine blk_alloc ?_ _)); refine blk_put (cs := #[.int .i64 0, .int .i64 0, .int .i64 0, .bool false]) ?_ 1 _ rfl; (with_reducible repeat (first | refine blk_drewN ?_ _ | refine blk_drew ?_ | refine blk_alloc ?_ _)); refine blk_put (cs := #[.int .i64 0, .int .i64 0, .int .i64 0, .bool false]) ?_ 0 _ rfl; (with_reducible repeat (first | refine blk_drewN ?_ _ | refine blk_drew ?_ | refine blk_alloc ?_ _)); exact BK255.out⟩, ⟨by repeat (first | (with_reducible first | exact HB.out | apply below_alloc | apply pw_below_drewN | apply below_drew1 | refine below_set ?_ GE249.out | refine below_set ?_ GE255.out) | exact HB.out)⟩⟩
        case round =>
          clear H'
          try clear c1
          try clear p2
          try clear c4
          try clear c10
          try clear c11
          try clear c15
          try clear hcz16_0
          try clear hcz16_1
          try clear hcz16_2
          try clear hcz16_3
          try clear hcz8_0
          try clear hcz8_1
          try clear hcz8_2
          try clear hcz8_3
          try clear hcz8_4
          try clear hcz8_5
          try clear hcz8_6
          try clear hcz8_7
          try clear hfz16_0
          try clear hfz16_1
          try clear hfz16_2
          try clear hfz16_3
          try clear hfz8_0
          try clear hfz8_1
          try clear hfz8_2
          try clear hfz8_3
          try clear hfz8_4
          try clear hfz8_5
          try clear hfz8_6
          try clear hfz8_7
          try clear p2
          obtain ⟨x5_2, x8_2, x9_2, x256000_2, x256001_2, x256002_2, x256003_2, rfl, rfl, rfl, HA, HK2, BK249, BK255, HB⟩ := hrel
          cases gk with
          | zero => exact absurd HA.out (by simp [chargeparklaw12_ChargerOrder.l0])
          | succ k2 =>
            have H := HA.out
            clear HA
            simp only [chargeparklaw12_ChargerOrder.l0] at H
            by_cases c17 : x9_2 < (l1.length : Int)
            · rw [if_pos c17] at H
              have c17b0 : decide (x9_2 < (l1.length : Int)) = true := decide_eq_true c17
              clear c17
              by_cases c18 : 0 ≤ x9_2
              · rw [if_pos c18] at H
                have c18b0 : decide (0 ≤ x9_2) = true := decide_eq_true c18
                clear c18
                replace H := Option.bind_eq_some_iff.mp H
                obtain ⟨⟨t257, t258, t259, t260, t261⟩, A190, H⟩ := H
                replace H : (if t261 = 0 then (if ((rd_T27 l1 x9_2).f0) = 1 then (chargeparklaw12_ChargerOrder.j3 k2 l1 x5_2 1 x9_2 a0_0 a0_1 a0_2 a0_3 a0_4 a0_5 a0_6 a0_7 t257 t258 t259 t260) else (if ((rd_T27 l1 x9_2).f0) = 3 then (if x8_2 = 1 then (chargeparklaw12_ChargerOrder.j3 k2 l1 x5_2 2 x9_2 a0_0 a0_1 a0_2 a0_3 a0_4 a0_5 a0_6 a0_7 t257 t258 t259 t260) else (chargeparklaw12_ChargerOrder.j3 k2 l1 x5_2 x8_2 x9_2 a0_0 a0_1 a0_2 a0_3 a0_4 a0_5 a0_6 a0_7 t257 t258 t259 t260)) else (if ((rd_T27 l1 x9_2).f0) = 4 then (if x8_2 = 2 then (if ((rd_T27 l1 x9_2).f1) = 1 then (chargeparklaw12_ChargerOrder.j3 k2 l1 x5_2 3 x9_2 a0_0 a0_1 a0_2 a0_3 a0_4 a0_5 a0_6 a0_7 t257 t258 t259 t260) else (chargeparklaw12_ChargerOrder.j3 k2 l1 x5_2 0 x9_2 a0_0 a0_1 a0_2 a0_3 a0_4 a0_5 a0_6 a0_7 t257 t258 t259 t260)) else (chargeparklaw12_ChargerOrder.j3 k2 l1 x5_2 0 x9_2 a0_0 a0_1 a0_2 a0_3 a0_4 a0_5 a0_6 a0_7 t257 t258 t259 t260)) else (if ((rd_T27 l1 x9_2).f0) = 5 then (if x8_2 = 3 then (chargeparklaw12_ChargerOrder.j3 k2 l1 x5_2 4 x9_2 a0_0 a0_1 a0_2 a0_3 a0_4 a0_5 a0_6 a0_7 t257 t258 t259 t260) else (chargeparklaw12_ChargerOrder.j3 k2 l1 x5_2 x8_2 x9_2 a0_0 a0_1 a0_2 a0_3 a0_4 a0_5 a0_6 a0_7 t257 t258 t259 t260)) else (if ((rd_T27 l1 x9_2).f0) = 6 then (chargeparklaw12_ChargerOrder.j2 k2 l1 x5_2 x8_2 x9_2 (((rd_T27 l1 x9_2).f0) == 6) a0_0 a0_1 a0_2 a0_3 a0_4 a0_5 a0_6 a0_7 t257 t258 t259 t260) else (if ((rd_T27 l1 x9_2).f0) = 2 then (chargeparklaw12_ChargerOrder.j2 k2 l1 x5_2 x8_2 x9_2 (((rd_T27 l1 x9_2).f0) == 2) a0_0 a0_1 a0_2 a0_3 a0_4 a0_5 a0_6 a0_7 t257 t258 t259 t260) else (chargeparklaw12_ChargerOrder.j2 k2 l1 x5_2 x8_2 x9_2 (((rd_T27 l1 x9_2).f0) == 9) a0_0 a0_1 a0_2 a0_3 a0_4 a0_5 a0_6 a0_7 t257 t258 t259 t260))))))) else (chargeparklaw12_ChargerOrder.l0 k2 l1 x5_2 x8_2 (wrap64 (x9_2 + 1)) a0_0 a0_1 a0_2 a0_3 a0_4 a0_5 a0_6 a0_7 x256000_2 x256001_2 x256002_2 x256003_2)) = some r := H
                have A19 := Aside0.mk A190
                clear A190
                by_cases c20 : t261 = 0
                · rw [if_pos c20] at H
                  have c20b0 : (t261 == 0) = true := beq_iff_eq.mpr c20
                  have c20b1 : (t261 != 0) = false := bne_eq_false_iff_eq.mpr c20
                  clear c20
                  have HC21 := Aside0.mk H
                  clear H
                  try go_wp2
                  have n0_ := Aside0.mk (blk_drew BK249.out)
                  have n1_ := Aside0.mk (blk_drew BK255.out)
                  have n2_ := Aside0.mk (below_drew1 HB.out)
                  clear BK249
                  clear BK255
                  clear HB
                  have BK249 := n0_
                  have BK255 := n1_
                  have HB := n2_
                  clear n0_ n1_ n2_
                  have p256 : 0 ≤ (x9_2 : Int) := of_decide_eq_true (by first | (with_reducible assumption) | assumption)
                  have q256 : x9_2 < (l1.length : Int) := of_decide_eq_true (by first | (with_reducible assumption) | assumption)
                  obtain ⟨ad256, e256, hx256_0, hx256_1, hx256_2⟩ := at_T27 HR1.out x9_2 p256 q256
                  have hw256_2 := hx256_2
                  have hw256_1 := hx256_1
                  have hw256_0 := hx256_0
                  cases e256
                  replace hx256_0 := (HB.out.cell (World.block_lt_of_cell? w _ hx256_0)).trans hx256_0
                  replace hx256_1 := (HB.out.cell (World.block_lt_of_cell? w _ hx256_1)).trans hx256_1
                  replace hx256_2 := (HB.out.cell (World.block_lt_of_cell? w _ hx256_2)).trans hx256_2
                  replace p256 := eq_true p256
                  replace q256 := eq_true q256
                  refine start_ (n := 13) (S := fun w' => w'.cell? ⟨gb249, 0, none⟩ = some (.string a0_0) ∧ w'.cell? ⟨gb249, 1, none⟩ = some (.int .i64 a0_1) ∧ w'.cell? ⟨gb249, 2, none⟩ = some (.int .i64 a0_2) ∧ w'.cell? ⟨gb249, 3, none⟩ = some (.int .i64 a0_3) ∧ w'.cell? ⟨gb249, 4, none⟩ = some (.int .i64 a0_4) ∧ w'.cell? ⟨gb249, 5, none⟩ = some (.int .i64 a0_5) ∧ w'.cell? ⟨gb249, 6, none⟩ = some (.int .i64 a0_6) ∧ w'.cell? ⟨gb249, 7, none⟩ = some (.int .i64 a0_7) ∧ w'.cell? ⟨gb255, 0, none⟩ = some (.int .i64 x256000_2) ∧ w'.cell? ⟨gb255, 1, none⟩ = some (.int .i64 x256001_2) ∧ w'.cell? ⟨gb255, 2, none⟩ = some (.int .i64 x256002_2) ∧ w'.cell? ⟨gb255, 3, none⟩ = some (.bool x256003_2) ∧ w'.cell? (ad256.add ((x9_2).toNat * 3)) = some (.int .i64 ((rd_T27 l1 x9_2).f0)) ∧ w'.cell? ⟨(ad256.add ((x9_2).toNat * 3)).block, (ad256.add ((x9_2).toNat * 3)).off + 1, none⟩ = some (.int .i64 ((rd_T27 l1 x9_2).f1)) ∧ w'.cell? ⟨(ad256.add ((x9_2).toNat * 3)).block, (ad256.add ((x9_2).toNat * 3)).off + 2, none⟩ = some (.int .i64 ((rd_T27 l1 x9_2).f2))) (ds := []) #[false, false, false, false, false, false, false, false, false, false, false, false, false] (by kernel_rfl) rfl rfl ⟨(blk_cell BK249.out 0).trans rfl, (blk_cell BK249.out 1).trans rfl, (blk_cell BK249.out 2).trans rfl, (blk_cell BK249.out 3).trans rfl, (blk_cell BK249.out 4).trans rfl, (blk_cell BK249.out 5).trans rfl, (blk_cell BK249.out 6).trans rfl, (blk_cell BK249.out 7).trans rfl, (blk_cell BK255.out 0).trans rfl, (blk_cell BK255.out 1).trans rfl, (blk_cell BK255.out 2).trans rfl, (blk_cell BK255.out 3).trans rfl, ((HB.out.cell (World.block_lt_of_cell? w _ hw256_0)).trans hw256_0), ((HB.out.cell (World.block_lt_of_cell? w _ hw256_1)).trans hw256_1), ((HB.out.cell (World.block_lt_of_cell? w _ hw256_2)).trans hw256_2)⟩ (fun hHeld => ?_); refine with_tabW chargeparklaw12_ChargerOrder.tab10 chargeparklaw12_ChargerOrder.bits10 (fun HT_ HW_ => ?_)
                  generalize wr.drew = w22 at BK249 BK255 HB hx256_0 hx256_1 hx256_2 hHeld ⊢
                  refine pure_ (i := 2) (N := some 33) (v := ?_) (a' := ?_) #[false, false, true, false, false, false, false, false, false, false, false, false, false] rfl rfl (any_of HT_.out (by kernel_rfl)) (fun _ _ _ h => h) (Or.inl ⟨by rfl, ?_⟩) ?_ ?_
                  rotate_left
                  · intro w'
                    go_simp
                    with_reducible rfl
                  rotate_left
                  · simp only [Act.put, List.setIfInBounds_toArray, List.set_cons_zero, List.set_cons_succ, i64_w, i32_w]
                    rfl
                  refine pure_ (i := 3) (N := some 34) (v := ?_) (a' := ?_) #[false, false, true, true, false, false, false, false, false, false, false, false, false] rfl rfl (any_of HT_.out (by kernel_rfl)) (fun _ _ _ h => h) (Or.inl ⟨by rfl, ?_⟩) ?_ ?_
                  rotate_left
                  · intro w'
                    go_simp
                    with_reducible rfl
                  rotate_left
                  · simp only [Act.put, List.setIfInBounds_toArray, List.set_cons_zero, List.set_cons_succ, i64_w, i32_w]
                    rfl
                  refine pure_ (i := 4) (N := some 35) (v := ?_) (a' := ?_) #[false, false, true, true, true, false, false, false, false, false, false, false, false] rfl rfl (any_of HT_.out (by kernel_rfl)) (fun _ _ _ h => h) (Or.inl ⟨by rfl, ?_⟩) ?_ ?_
                  rotate_left
                  · intro w'
                    go_simp
                    with_reducible rfl
                  rotate_left
                  · simp only [Act.put, List.setIfInBounds_toArray, List.set_cons_zero, List.set_cons_succ, i64_w, i32_w]
                    rfl
                  refine take_ (i := 0) (N := some 31) (v := ?_) (a' := ?_) #[true, false, true, true, true, false, false, false, false, false, false, false, false] rfl rfl (take_ofW HT_.out HW_.out (by kernel_rfl)) (fun _ _ _ h => h) (Or.inl ⟨by rfl, ?_⟩) hHeld ?_ ?_
                  rotate_left
                  · rintro w' ⟨s0, s1, s2, s3, s4, s5, s6, s7, s8, s9, s10, s11, s12, s13, s14⟩
                    go_simp
                    with_reducible rfl
                  rotate_left
                  · simp only [Act.put, List.setIfInBounds_toArray, List.set_cons_zero, List.set_cons_succ, i64_w, i32_w]
                    rfl
                  refine take_ (i := 1) (N := some 32) (v := ?_) (a' := ?_) #[true, true, true, true, true, false, false, false, false, false, false, false, false] rfl rfl (take_ofW HT_.out HW_.out (by kernel_rfl)) (fun _ _ _ h => h) (Or.inl ⟨by rfl, ?_⟩) hHeld ?_ ?_
                  rotate_left
                  · rintro w' ⟨s0, s1, s2, s3, s4, s5, s6, s7, s8, s9, s10, s11, s12, s13, s14⟩
                    go_simp
                    with_reducible rfl
                  rotate_left
                  · simp only [Act.put, List.setIfInBounds_toArray, List.set_cons_zero, List.set_cons_succ, i64_w, i32_w]
                    rfl
                  refine take_ (i := 5) (N := some 36) (v := ?_) (a' := ?_) #[true, true, true, true, true, true, false, false, false, false, false, false, false] rfl rfl (take_ofW HT_.out HW_.out (by kernel_rfl)) (fun _ _ _ h => h) (Or.inl ⟨by rfl, ?_⟩) hHeld ?_ ?_
                  rotate_left
                  · rintro w' ⟨s0, s1, s2, s3, s4, s5, s6, s7, s8, s9, s10, s11, s12, s13, s14⟩
                    go_simp
                    with_reducible rfl
                  rotate_left
                  · simp only [Act.put, List.setIfInBounds_toArray, List.set_cons_zero, List.set_cons_succ, i64_w, i32_w]
                    rfl
                  refine join_ (σ := Nat) 2 #[true, true, true, true, true, true, true, true, true, true, true, false, false] (fun s_ => [(37, .tuple #[.agg #[.int .i64 t257, .int .i64 t258, .int .i64 t259, .bool t260], .int .i64 t261]), (10, .pointer (some ⟨s_, 0, none⟩)), (30, .tuple #[.agg #[.int .i64 t257, .int .i64 t258, .int .i64 t259, .bool t260], .int .i64 t261]), (38, .agg #[.int .i64 t257, .int .i64 t258, .int .i64 t259, .bool t260]), (39, .int .i64 t261)]) (fun s_ w' => (w'.cell? ⟨gb249, 0, none⟩ = some (.string a0_0) ∧ w'.cell? ⟨gb249, 1, none⟩ = some (.int .i64 a0_1) ∧ w'.cell? ⟨gb249, 2, none⟩ = some (.int .i64 a0_2) ∧ w'.cell? ⟨gb249, 3, none⟩ = some (.int .i64 a0_3) ∧ w'.cell? ⟨gb249, 4, none⟩ = some (.int .i64 a0_4) ∧ w'.cell? ⟨gb249, 5, none⟩ = some (.int .i64 a0_5) ∧ w'.cell? ⟨gb249, 6, none⟩ = some (.int .i64 a0_6) ∧ w'.cell? ⟨gb249, 7, none⟩ = some (.int .i64 a0_7) ∧ w'.cell? ⟨gb255, 0, none⟩ = some (.int .i64 x256000_2) ∧ w'.cell? ⟨gb255, 1, none⟩ = some (.int .i64 x256001_2) ∧ w'.cell? ⟨gb255, 2, none⟩ = some (.int .i64 x256002_2) ∧ w'.cell? ⟨gb255, 3, none⟩ = some (.bool x256003_2) ∧ w'.cell? (ad256.add ((x9_2).toNat * 3)) = some (.int .i64 ((rd_T27 l1 x9_2).f0)) ∧ w'.cell? ⟨(ad256.add ((x9_2).toNat * 3)).block, (ad256.add ((x9_2).toNat * 3)).off + 1, none⟩ = some (.int .i64 ((rd_T27 l1 x9_2).f1)) ∧ w'.cell? ⟨(ad256.add ((x9_2).toNat * 3)).block, (ad256.add ((x9_2).toNat * 3)).off + 2, none⟩ = some (.int .i64 ((rd_T27 l1 x9_2).f2))) ∧ (w'.heap[gb249]? = some (.cells #[.string a0_0, .int .i64 a0_1, .int .i64 a0_2, .int .i64 a0_3, .int .i64 a0_4, .int .i64 a0_5, .int .i64 a0_6, .int .i64 a0_7] 23 (0, 0))) ∧ (w'.heap[gb255]? = some (.cells #[.int .i64 x256000_2, .int .i64 x256001_2, .int .i64 x256002_2, .bool x256003_2] 25 (0, 0))) ∧ (w'.heap[s_]? = some (.cells #[.int .i64 0, .int .i64 0, .int .i64 0, .bool false] 25 (0, 0))) ∧ (w.heap.size ≤ s_) ∧ (w.heap.size ≤ s_) ∧ (gb249 ≠ s_) ∧ (s_ ≠ gb249) ∧ (gb255 ≠ s_) ∧ (s_ ≠ gb255) ∧ (Below w.heap.size w w')) ?_ ?_
                  rotate_left
                  · intro hCont
                    refine two_ (i := 6) (j := 10) (Ni := some 37) (Nj := some 10) #[true, true, true, true, true, true, true, false, false, false, false, false, false] #[true, true, true, true, true, true, false, false, false, false, true, false, false] rfl rfl rfl rfl (two_of HT_.out (by kernel_rfl)) (by decide) (by decide) (fun K hK => ?_) (fun K hK => ?_)
                    · skip
                      refine goes_ Tryd.func11 (by kernel_rfl) rfl #[.agg #[.string a0_0, .int .i64 a0_1, .int .i64 a0_2, .int .i64 a0_3, .int .i64 a0_4, .int .i64 a0_5, .int .i64 a0_6, .int .i64 a0_7], .agg #[.int .i64 x256000_2, .int .i64 x256001_2, .int .i64 x256002_2, .bool x256003_2], .agg #[.int .i64 ((rd_T27 l1 x9_2).f0), .int .i64 ((rd_T27 l1 x9_2).f1), .int .i64 ((rd_T27 l1 x9_2).f2)]] (by rfl) rfl rfl (by (try simp only [List.map_toArray, List.map_cons, List.map_nil]); first | done | rfl | (simp only [List.length_drop, List.length_take]; rfl)) ?_
                      with_reducible refine (charger_Step.calls a0_0 a0_1 a0_2 a0_3 a0_4 a0_5 a0_6 a0_7 x256000_2 x256001_2 x256002_2 x256003_2 ((rd_T27 l1 x9_2).f0) ((rd_T27 l1 x9_2).f1) ((rd_T27 l1 x9_2).f2) t257 t258 t259 t260 t261 _ (hG.below (by repeat (first | (with_reducible first | exact HB.out | apply below_alloc | apply pw_below_drewN | apply below_drew1) | exact HB.out | (refine Below.setCell ?_ (Aside0.out (by assumption)) _)))) A19.out).mono ?_
                      rintro e w23 ⟨rfl, hb⟩
                      refine ⟨_, rfl, ?_⟩
                      have n0_ := Aside0.mk (blk_below (g := gb249) (o := .cells #[.string a0_0, .int .i64 a0_1, .int .i64 a0_2, .int .i64 a0_3, .int .i64 a0_4, .int .i64 a0_5, .int .i64 a0_6, .int .i64 a0_7] 23 (0, 0)) (by (with_reducible repeat (first | refine blk_drewN ?_ _ | refine blk_drew ?_ | refine blk_alloc ?_ _)); exact BK249.out) hb)
                      have n1_ := Aside0.mk (blk_below (g := gb255) (o := .cells #[.int .i64 x256000_2, .int .i64 x256001_2, .int .i64 x256002_2, .bool x256003_2] 25 (0, 0)) (by (with_reducible repeat (first | refine blk_drewN ?_ _ | refine blk_drew ?_ | refine blk_alloc ?_ _)); exact BK255.out) hb)
                      have n2_ := Aside0.mk (below_step (by repeat (first | (with_reducible first | exact HB.out | apply below_alloc | apply pw_below_drewN | apply below_drew1 | refine below_set ?_ GE249.out | refine below_set ?_ GE255.out) | exact HB.out)) hb)
                      clear BK249
                      clear BK255
                      clear HB
                      have BK249 := n0_
                      have BK255 := n1_
                      have HB := n2_
                      clear n0_ n1_ n2_
                      (try clear hb)
                      (try clear hb2)
                      (try clear hk)
                      (try clear hi)
                      refine hK.out _ _ ⟨(blk_cell BK249.out 0).trans rfl, (blk_cell BK249.out 1).trans rfl, (blk_cell BK249.out 2).trans rfl, (blk_cell BK249.out 3).trans rfl, (blk_cell BK249.out 4).trans rfl, (blk_cell BK249.out 5).trans rfl, (blk_cell BK249.out 6).trans rfl, (blk_cell BK249.out 7).trans rfl, (blk_cell BK255.out 0).trans rfl, (blk_cell BK255.out 1).trans rfl, (blk_cell BK255.out 2).trans rfl, (blk_cell BK255.out 3).trans rfl, ((HB.out.cell (World.block_lt_of_cell? w _ hw256_0)).trans hw256_0), ((HB.out.cell (World.block_lt_of_cell? w _ hw256_1)).trans hw256_1), ((HB.out.cell (World.block_lt_of_cell? w _ hw256_2)).trans hw256_2)⟩ (fun hHeld => ?_)
                      clear hK K
                      refine norm_ (a' := ?_) ?_ ?_
                      rotate_left
                      · show Act.put _ (some 37) _ = _
                        simp only [Act.put, List.setIfInBounds_toArray, List.set_cons_zero, List.set_cons_succ, i64_w, i32_w]
                        rfl
                      refine pure_ (i := 7) (N := some 30) (v := ?_) (a' := ?_) #[true, true, true, true, true, true, true, true, false, false, false, false, false] rfl rfl (any_of HT_.out (by kernel_rfl)) (fun _ _ _ h => h) (Or.inl ⟨by rfl, ?_⟩) ?_ ?_
                      rotate_left
                      · intro w'
                        go_simp
                        with_reducible rfl
                      rotate_left
                      · simp only [Act.put, List.setIfInBounds_toArray, List.set_cons_zero, List.set_cons_succ, i64_w, i32_w]
                        rfl
                      refine pure_ (i := 8) (N := some 38) (v := ?_) (a' := ?_) #[true, true, true, true, true, true, true, true, true, false, false, false, false] rfl rfl (any_of HT_.out (by kernel_rfl)) (fun _ _ _ h => h) (Or.inl ⟨by rfl, ?_⟩) ?_ ?_
                      rotate_left
                      · intro w'
                        go_simp
                        with_reducible rfl
                      rotate_left
                      · simp only [Act.put, List.setIfInBounds_toArray, List.set_cons_zero, List.set_cons_succ, i64_w, i32_w]
                        rfl
                      refine pure_ (i := 9) (N := some 39) (v := ?_) (a' := ?_) #[true, true, true, true, true, true, true, true, true, true, false, false, false] rfl rfl (any_of HT_.out (by kernel_rfl)) (fun _ _ _ h => h) (Or.inl ⟨by rfl, ?_⟩) ?_ ?_
                      rotate_left
                      · intro w'
                        go_simp
                        with_reducible rfl
                      rotate_left
                      · simp only [Act.put, List.setIfInBounds_toArray, List.set_cons_zero, List.set_cons_succ, i64_w, i32_w]
                        rfl
                      refine one_ (i := 10) (N := some 10) #[true, true, true, true, true, true, true, true, true, true, true, false, false] rfl rfl (one_of HT_.out (by kernel_rfl)) (by decide) (fun K hK => ?_)
                      refine box_step ?hg (N := 10) ?hd (cs := #[.int .i64 0, .int .i64 0, .int .i64 0, .bool false]) (t := 25) ?hr ?_; (case hd => rfl); (case hg => rfl); (case hr => first | (go_simp; done) | (go_simp; rfl))
                      intro gb262 hg w24 hbox hb
                      have n0_ := Aside0.mk (blk_below (g := gb249) (o := .cells #[.string a0_0, .int .i64 a0_1, .int .i64 a0_2, .int .i64 a0_3, .int .i64 a0_4, .int .i64 a0_5, .int .i64 a0_6, .int .i64 a0_7] 23 (0, 0)) (by (with_reducible repeat (first | refine blk_drewN ?_ _ | refine blk_drew ?_ | refine blk_alloc ?_ _)); exact BK249.out) hb)
                      have n1_ := Aside0.mk (blk_below (g := gb255) (o := .cells #[.int .i64 x256000_2, .int .i64 x256001_2, .int .i64 x256002_2, .bool x256003_2] 25 (0, 0)) (by (with_reducible repeat (first | refine blk_drewN ?_ _ | refine blk_drew ?_ | refine blk_alloc ?_ _)); exact BK255.out) hb)
                      have n2_ := Aside0.mk (below_step (by repeat (first | (with_reducible first | exact HB.out | apply below_alloc | apply pw_below_drewN | apply below_drew1 | refine below_set ?_ GE249.out | refine below_set ?_ GE255.out) | exact HB.out)) hb)
                      have n3_ := Aside0.mk (hbox)
                      have n4_ := Aside0.mk ((by rw [hg]; exact (below_size (by repeat (first | (with_reducible first | exact HB.out | apply below_alloc | apply pw_below_drewN | apply below_drew1 | refine below_set ?_ GE249.out | refine below_set ?_ GE255.out) | exact HB.out))) : w.heap.size ≤ gb262))
                      have n5_ := Aside0.mk ((by rw [hg]; exact (below_size (by repeat (first | (with_reducible first | exact HB.out | apply below_alloc | apply pw_below_drewN | apply below_drew1 | refine below_set ?_ GE249.out | refine below_set ?_ GE255.out) | exact HB.out))) : w.heap.size ≤ gb262))
                      have n6_ := Aside0.mk ((by rw [hg]; exact Nat.ne_of_lt (blk_lt (g := gb249) (o := .cells #[.string a0_0, .int .i64 a0_1, .int .i64 a0_2, .int .i64 a0_3, .int .i64 a0_4, .int .i64 a0_5, .int .i64 a0_6, .int .i64 a0_7] 23 (0, 0)) (by (with_reducible repeat (first | refine blk_drewN ?_ _ | refine blk_drew ?_ | refine blk_alloc ?_ _)); exact BK249.out)) : gb249 ≠ gb262))
                      have n7_ := Aside0.mk ((by rw [hg]; exact Nat.ne_of_gt (blk_lt (g := gb249) (o := .cells #[.string a0_0, .int .i64 a0_1, .int .i64 a0_2, .int .i64 a0_3, .int .i64 a0_4, .int .i64 a0_5, .int .i64 a0_6, .int .i64 a0_7] 23 (0, 0)) (by (with_reducible repeat (first | refine blk_drewN ?_ _ | refine blk_drew ?_ | refine blk_alloc ?_ _)); exact BK249.out)) : gb262 ≠ gb249))
                      have n8_ := Aside0.mk ((by rw [hg]; exact Nat.ne_of_lt (blk_lt (g := gb255) (o := .cells #[.int .i64 x256000_2, .int .i64 x256001_2, .int .i64 x256002_2, .bool x256003_2] 25 (0, 0)) (by (with_reducible repeat (first | refine blk_drewN ?_ _ | refine blk_drew ?_ | refine blk_alloc ?_ _)); exact BK255.out)) : gb255 ≠ gb262))
                      have n9_ := Aside0.mk ((by rw [hg]; exact Nat.ne_of_gt (blk_lt (g := gb255) (o := .cells #[.int .i64 x256000_2, .int .i64 x256001_2, .int .i64 x256002_2, .bool x256003_2] 25 (0, 0)) (by (with_reducible repeat (first | refine blk_drewN ?_ _ | refine blk_drew ?_ | refine blk_alloc ?_ _)); exact BK255.out)) : gb262 ≠ gb255))
                      clear BK249
                      clear BK255
                      clear HB
                      have BK249 := n0_
                      have BK255 := n1_
                      have HB := n2_
                      have BK262 := n3_
                      have GW262 := n4_
                      have GE262 := n5_
                      have NB249_262 := n6_
                      have NB262_249 := n7_
                      have NB255_262 := n8_
                      have NB262_255 := n9_
                      clear n0_ n1_ n2_ n3_ n4_ n5_ n6_ n7_ n8_ n9_
                      clear hb hbox hg
                      refine hK.out _ _ ⟨(blk_cell BK249.out 0).trans rfl, (blk_cell BK249.out 1).trans rfl, (blk_cell BK249.out 2).trans rfl, (blk_cell BK249.out 3).trans rfl, (blk_cell BK249.out 4).trans rfl, (blk_cell BK249.out 5).trans rfl, (blk_cell BK249.out 6).trans rfl, (blk_cell BK249.out 7).trans rfl, (blk_cell BK255.out 0).trans rfl, (blk_cell BK255.out 1).trans rfl, (blk_cell BK255.out 2).trans rfl, (blk_cell BK255.out 3).trans rfl, ((HB.out.cell (World.block_lt_of_cell? w _ hw256_0)).trans hw256_0), ((HB.out.cell (World.block_lt_of_cell? w _ hw256_1)).trans hw256_1), ((HB.out.cell (World.block_lt_of_cell? w _ hw256_2)).trans hw256_2)⟩ (fun hHeld => ?_)
                      clear hK K
                      refine norm_ (a' := ?_) ?_ ?_
                      rotate_left
                      · show Act.put _ (some 10) _ = _
                        simp only [Act.put, List.setIfInBounds_toArray, List.set_cons_zero, List.set_cons_succ, i64_w, i32_w]
                        rfl
                      exact norm_ (by simp only [putAll, Act.put, List.setIfInBounds_toArray, List.set_cons_zero, List.set_cons_succ]) (hCont (gb262) _ ⟨hHeld, (by (with_reducible repeat (first | refine blk_drewN ?_ _ | refine blk_drew ?_ | refine blk_alloc ?_ _)); exact BK249.out), (by (with_reducible repeat (first | refine blk_drewN ?_ _ | refine blk_drew ?_ | refine blk_alloc ?_ _)); exact BK255.out), (by (with_reducible repeat (first | refine blk_drewN ?_ _ | refine blk_drew ?_ | refine blk_alloc ?_ _)); exact BK262.out), GW262.out, GE262.out, NB249_262.out, NB262_249.out, NB255_262.out, NB262_255.out, (by repeat (first | (with_reducible first | exact HB.out | apply below_alloc | apply pw_below_drewN | apply below_drew1 | refine below_set ?_ GE249.out | refine below_set ?_ GE255.out | refine below_set ?_ GE262.out) | exact HB.out))⟩)
                    · skip
                      refine box_step ?hg (N := 10) ?hd (cs := #[.int .i64 0, .int .i64 0, .int .i64 0, .bool false]) (t := 25) ?hr ?_; (case hd => rfl); (case hg => rfl); (case hr => first | (go_simp; done) | (go_simp; rfl))
                      intro gb262 hg w23 hbox hb
                      have n0_ := Aside0.mk (blk_below (g := gb249) (o := .cells #[.string a0_0, .int .i64 a0_1, .int .i64 a0_2, .int .i64 a0_3, .int .i64 a0_4, .int .i64 a0_5, .int .i64 a0_6, .int .i64 a0_7] 23 (0, 0)) (by (with_reducible repeat (first | refine blk_drewN ?_ _ | refine blk_drew ?_ | refine blk_alloc ?_ _)); exact BK249.out) hb)
                      have n1_ := Aside0.mk (blk_below (g := gb255) (o := .cells #[.int .i64 x256000_2, .int .i64 x256001_2, .int .i64 x256002_2, .bool x256003_2] 25 (0, 0)) (by (with_reducible repeat (first | refine blk_drewN ?_ _ | refine blk_drew ?_ | refine blk_alloc ?_ _)); exact BK255.out) hb)
                      have n2_ := Aside0.mk (below_step (by repeat (first | (with_reducible first | exact HB.out | apply below_alloc | apply pw_below_drewN | apply below_drew1 | refine below_set ?_ GE249.out | refine below_set ?_ GE255.out) | exact HB.out)) hb)
                      have n3_ := Aside0.mk (hbox)
                      have n4_ := Aside0.mk ((by rw [hg]; exact (below_size (by repeat (first | (with_reducible first | exact HB.out | apply below_alloc | apply pw_below_drewN | apply below_drew1 | refine below_set ?_ GE249.out | refine below_set ?_ GE255.out) | exact HB.out))) : w.heap.size ≤ gb262))
                      have n5_ := Aside0.mk ((by rw [hg]; exact (below_size (by repeat (first | (with_reducible first | exact HB.out | apply below_alloc | apply pw_below_drewN | apply below_drew1 | refine below_set ?_ GE249.out | refine below_set ?_ GE255.out) | exact HB.out))) : w.heap.size ≤ gb262))
                      have n6_ := Aside0.mk ((by rw [hg]; exact Nat.ne_of_lt (blk_lt (g := gb249) (o := .cells #[.string a0_0, .int .i64 a0_1, .int .i64 a0_2, .int .i64 a0_3, .int .i64 a0_4, .int .i64 a0_5, .int .i64 a0_6, .int .i64 a0_7] 23 (0, 0)) (by (with_reducible repeat (first | refine blk_drewN ?_ _ | refine blk_drew ?_ | refine blk_alloc ?_ _)); exact BK249.out)) : gb249 ≠ gb262))
                      have n7_ := Aside0.mk ((by rw [hg]; exact Nat.ne_of_gt (blk_lt (g := gb249) (o := .cells #[.string a0_0, .int .i64 a0_1, .int .i64 a0_2, .int .i64 a0_3, .int .i64 a0_4, .int .i64 a0_5, .int .i64 a0_6, .int .i64 a0_7] 23 (0, 0)) (by (with_reducible repeat (first | refine blk_drewN ?_ _ | refine blk_drew ?_ | refine blk_alloc ?_ _)); exact BK249.out)) : gb262 ≠ gb249))
                      have n8_ := Aside0.mk ((by rw [hg]; exact Nat.ne_of_lt (blk_lt (g := gb255) (o := .cells #[.int .i64 x256000_2, .int .i64 x256001_2, .int .i64 x256002_2, .bool x256003_2] 25 (0, 0)) (by (with_reducible repeat (first | refine blk_drewN ?_ _ | refine blk_drew ?_ | refine blk_alloc ?_ _)); exact BK255.out)) : gb255 ≠ gb262))
                      have n9_ := Aside0.mk ((by rw [hg]; exact Nat.ne_of_gt (blk_lt (g := gb255) (o := .cells #[.int .i64 x256000_2, .int .i64 x256001_2, .int .i64 x256002_2, .bool x256003_2] 25 (0, 0)) (by (with_reducible repeat (first | refine blk_drewN ?_ _ | refine blk_drew ?_ | refine blk_alloc ?_ _)); exact BK255.out)) : gb262 ≠ gb255))
                      clear BK249
                      clear BK255
                      clear HB
                      have BK249 := n0_
                      have BK255 := n1_
                      have HB := n2_
                      have BK262 := n3_
                      have GW262 := n4_
                      have GE262 := n5_
                      have NB249_262 := n6_
                      have NB262_249 := n7_
                      have NB255_262 := n8_
                      have NB262_255 := n9_
                      clear n0_ n1_ n2_ n3_ n4_ n5_ n6_ n7_ n8_ n9_
                      clear hb hbox hg
                      refine hK.out _ _ ⟨(blk_cell BK249.out 0).trans rfl, (blk_cell BK249.out 1).trans rfl, (blk_cell BK249.out 2).trans rfl, (blk_cell BK249.out 3).trans rfl, (blk_cell BK249.out 4).trans rfl, (blk_cell BK249.out 5).trans rfl, (blk_cell BK249.out 6).trans rfl, (blk_cell BK249.out 7).trans rfl, (blk_cell BK255.out 0).trans rfl, (blk_cell BK255.out 1).trans rfl, (blk_cell BK255.out 2).trans rfl, (blk_cell BK255.out 3).trans rfl, ((HB.out.cell (World.block_lt_of_cell? w _ hw256_0)).trans hw256_0), ((HB.out.cell (World.block_lt_of_cell? w _ hw256_1)).trans hw256_1), ((HB.out.cell (World.block_lt_of_cell? w _ hw256_2)).trans hw256_2)⟩ (fun hHeld => ?_)
                      clear hK K
                      refine norm_ (a' := ?_) ?_ ?_
                      rotate_left
                      · show Act.put _ (some 10) _ = _
                        simp only [Act.put, List.setIfInBounds_toArray, List.set_cons_zero, List.set_cons_succ, i64_w, i32_w]
                        rfl
                      refine one_ (i := 6) (N := some 37) #[true, true, true, true, true, true, true, false, false, false, true, false, false] rfl rfl (one_of HT_.out (by kernel_rfl)) (by decide) (fun K hK => ?_)
                      refine goes_ Tryd.func11 (by kernel_rfl) rfl #[.agg #[.string a0_0, .int .i64 a0_1, .int .i64 a0_2, .int .i64 a0_3, .int .i64 a0_4, .int .i64 a0_5, .int .i64 a0_6, .int .i64 a0_7], .agg #[.int .i64 x256000_2, .int .i64 x256001_2, .int .i64 x256002_2, .bool x256003_2], .agg #[.int .i64 ((rd_T27 l1 x9_2).f0), .int .i64 ((rd_T27 l1 x9_2).f1), .int .i64 ((rd_T27 l1 x9_2).f2)]] (by rfl) rfl rfl (by (try simp only [List.map_toArray, List.map_cons, List.map_nil]); first | done | rfl | (simp only [List.length_drop, List.length_take]; rfl)) ?_
                      with_reducible refine (charger_Step.calls a0_0 a0_1 a0_2 a0_3 a0_4 a0_5 a0_6 a0_7 x256000_2 x256001_2 x256002_2 x256003_2 ((rd_T27 l1 x9_2).f0) ((rd_T27 l1 x9_2).f1) ((rd_T27 l1 x9_2).f2) t257 t258 t259 t260 t261 _ (hG.below (by repeat (first | (with_reducible first | exact HB.out | apply below_alloc | apply pw_below_drewN | apply below_drew1) | exact HB.out | (refine Below.setCell ?_ (Aside0.out (by assumption)) _)))) A19.out).mono ?_
                      rintro e w24 ⟨rfl, hb⟩
                      refine ⟨_, rfl, ?_⟩
                      have n0_ := Aside0.mk (blk_below (g := gb249) (o := .cells #[.string a0_0, .int .i64 a0_1, .int .i64 a0_2, .int .i64 a0_3, .int .i64 a0_4, .int .i64 a0_5, .int .i64 a0_6, .int .i64 a0_7] 23 (0, 0)) (by (with_reducible repeat (first | refine blk_drewN ?_ _ | refine blk_drew ?_ | refine blk_alloc ?_ _)); exact BK249.out) hb)
                      have n1_ := Aside0.mk (blk_below (g := gb255) (o := .cells #[.int .i64 x256000_2, .int .i64 x256001_2, .int .i64 x256002_2, .bool x256003_2] 25 (0, 0)) (by (with_reducible repeat (first | refine blk_drewN ?_ _ | refine blk_drew ?_ | refine blk_alloc ?_ _)); exact BK255.out) hb)
                      have n2_ := Aside0.mk (blk_below (g := gb262) (o := .cells #[.int .i64 0, .int .i64 0, .int .i64 0, .bool false] 25 (0, 0)) (by (with_reducible repeat (first | refine blk_drewN ?_ _ | refine blk_drew ?_ | refine blk_alloc ?_ _)); exact BK262.out) hb)
                      have n3_ := Aside0.mk (below_step (by repeat (first | (with_reducible first | exact HB.out | apply below_alloc | apply pw_below_drewN | apply below_drew1 | refine below_set ?_ GE249.out | refine below_set ?_ GE255.out | refine below_set ?_ GE262.out) | exact HB.out)) hb)
                      clear BK249
                      clear BK255
                      clear BK262
                      clear HB
                      have BK249 := n0_
                      have BK255 := n1_
                      have BK262 := n2_
                      have HB := n3_
                      clear n0_ n1_ n2_ n3_
                      (try clear hb)
                      (try clear hb2)
                      (try clear hk)
                      (try clear hi)
                      refine hK.out _ _ ⟨(blk_cell BK249.out 0).trans rfl, (blk_cell BK249.out 1).trans rfl, (blk_cell BK249.out 2).trans rfl, (blk_cell BK249.out 3).trans rfl, (blk_cell BK249.out 4).trans rfl, (blk_cell BK249.out 5).trans rfl, (blk_cell BK249.out 6).trans rfl, (blk_cell BK249.out 7).trans rfl, (blk_cell BK255.out 0).trans rfl, (blk_cell BK255.out 1).trans rfl, (blk_cell BK255.out 2).trans rfl, (blk_cell BK255.out 3).trans rfl, ((HB.out.cell (World.block_lt_of_cell? w _ hw256_0)).trans hw256_0), ((HB.out.cell (World.block_lt_of_cell? w _ hw256_1)).trans hw256_1), ((HB.out.cell (World.block_lt_of_cell? w _ hw256_2)).trans hw256_2)⟩ (fun hHeld => ?_)
                      clear hK K
                      refine norm_ (a' := ?_) ?_ ?_
                      rotate_left
                      · show Act.put _ (some 37) _ = _
                        simp only [Act.put, List.setIfInBounds_toArray, List.set_cons_zero, List.set_cons_succ, i64_w, i32_w]
                        rfl
                      refine pure_ (i := 7) (N := some 30) (v := ?_) (a' := ?_) #[true, true, true, true, true, true, true, true, false, false, true, false, false] rfl rfl (any_of HT_.out (by kernel_rfl)) (fun _ _ _ h => h) (Or.inl ⟨by rfl, ?_⟩) ?_ ?_
                      rotate_left
                      · intro w'
                        go_simp
                        with_reducible rfl
                      rotate_left
                      · simp only [Act.put, List.setIfInBounds_toArray, List.set_cons_zero, List.set_cons_succ, i64_w, i32_w]
                        rfl
                      refine pure_ (i := 8) (N := some 38) (v := ?_) (a' := ?_) #[true, true, true, true, true, true, true, true, true, false, true, false, false] rfl rfl (any_of HT_.out (by kernel_rfl)) (fun _ _ _ h => h) (Or.inl ⟨by rfl, ?_⟩) ?_ ?_
                      rotate_left
                      · intro w'
                        go_simp
                        with_reducible rfl
                      rotate_left
                      · simp only [Act.put, List.setIfInBounds_toArray, List.set_cons_zero, List.set_cons_succ, i64_w, i32_w]
                        rfl
                      refine pure_ (i := 9) (N := some 39) (v := ?_) (a' := ?_) #[true, true, true, true, true, true, true, true, true, true, true, false, false] rfl rfl (any_of HT_.out (by kernel_rfl)) (fun _ _ _ h => h) (Or.inl ⟨by rfl, ?_⟩) ?_ ?_
                      rotate_left
                      · intro w'
                        go_simp
                        with_reducible rfl
                      rotate_left
                      · simp only [Act.put, List.setIfInBounds_toArray, List.set_cons_zero, List.set_cons_succ, i64_w, i32_w]
                        rfl
                      exact norm_ (by simp only [putAll, Act.put, List.setIfInBounds_toArray, List.set_cons_zero, List.set_cons_succ]) (hCont (gb262) _ ⟨hHeld, (by (with_reducible repeat (first | refine blk_drewN ?_ _ | refine blk_drew ?_ | refine blk_alloc ?_ _)); exact BK249.out), (by (with_reducible repeat (first | refine blk_drewN ?_ _ | refine blk_drew ?_ | refine blk_alloc ?_ _)); exact BK255.out), (by (with_reducible repeat (first | refine blk_drewN ?_ _ | refine blk_drew ?_ | refine blk_alloc ?_ _)); exact BK262.out), GW262.out, GE262.out, NB249_262.out, NB262_249.out, NB255_262.out, NB262_255.out, (by repeat (first | (with_reducible first | exact HB.out | apply below_alloc | apply pw_below_drewN | apply below_drew1 | refine below_set ?_ GE249.out | refine below_set ?_ GE255.out | refine below_set ?_ GE262.out) | exact HB.out))⟩)
                  rintro gb262 w25 ⟨hS_, h0_, h1_, h2_, h3_, h4_, h5_, h6_, h7_, h8_, h9_⟩
                  have n0_ : Aside0 (w25.heap[gb249]? = some (.cells #[.string a0_0, .int .i64 a0_1, .int .i64 a0_2, .int .i64 a0_3, .int .i64 a0_4, .int .i64 a0_5, .int .i64 a0_6, .int .i64 a0_7] 23 (0, 0))) := ⟨h0_⟩
                  have n1_ : Aside0 (w25.heap[gb255]? = some (.cells #[.int .i64 x256000_2, .int .i64 x256001_2, .int .i64 x256002_2, .bool x256003_2] 25 (0, 0))) := ⟨h1_⟩
                  have n2_ : Aside0 (w25.heap[gb262]? = some (.cells #[.int .i64 0, .int .i64 0, .int .i64 0, .bool false] 25 (0, 0))) := ⟨h2_⟩
                  have n3_ : Aside0 (w.heap.size ≤ gb262) := ⟨h3_⟩
                  have n4_ : Aside0 (w.heap.size ≤ gb262) := ⟨h4_⟩
                  have n5_ : Aside0 (gb249 ≠ gb262) := ⟨h5_⟩
                  have n6_ : Aside0 (gb262 ≠ gb249) := ⟨h6_⟩
                  have n7_ : Aside0 (gb255 ≠ gb262) := ⟨h7_⟩
                  have n8_ : Aside0 (gb262 ≠ gb255) := ⟨h8_⟩
                  have n9_ : Aside0 (Below w.heap.size w w25) := ⟨h9_⟩
                  clear BK249
                  clear BK255
                  clear HB
                  clear h0_ h1_ h2_ h3_ h4_ h5_ h6_ h7_ h8_ h9_
                  have BK249 := n0_
                  have BK255 := n1_
                  have BK262 := n2_
                  have GW262 := n3_
                  have GE262 := n4_
                  have NB249_262 := n5_
                  have NB262_249 := n6_
                  have NB255_262 := n7_
                  have NB262_255 := n8_
                  have HB := n9_
                  clear n0_ n1_ n2_ n3_ n4_ n5_ n6_ n7_ n8_ n9_
                  have hHeld : w25.cell? ⟨gb249, 0, none⟩ = some (.string a0_0) ∧ w25.cell? ⟨gb249, 1, none⟩ = some (.int .i64 a0_1) ∧ w25.cell? ⟨gb249, 2, none⟩ = some (.int .i64 a0_2) ∧ w25.cell? ⟨gb249, 3, none⟩ = some (.int .i64 a0_3) ∧ w25.cell? ⟨gb249, 4, none⟩ = some (.int .i64 a0_4) ∧ w25.cell? ⟨gb249, 5, none⟩ = some (.int .i64 a0_5) ∧ w25.cell? ⟨gb249, 6, none⟩ = some (.int .i64 a0_6) ∧ w25.cell? ⟨gb249, 7, none⟩ = some (.int .i64 a0_7) ∧ w25.cell? ⟨gb255, 0, none⟩ = some (.int .i64 x256000_2) ∧ w25.cell? ⟨gb255, 1, none⟩ = some (.int .i64 x256001_2) ∧ w25.cell? ⟨gb255, 2, none⟩ = some (.int .i64 x256002_2) ∧ w25.cell? ⟨gb255, 3, none⟩ = some (.bool x256003_2) ∧ w25.cell? (ad256.add ((x9_2).toNat * 3)) = some (.int .i64 ((rd_T27 l1 x9_2).f0)) ∧ w25.cell? ⟨(ad256.add ((x9_2).toNat * 3)).block, (ad256.add ((x9_2).toNat * 3)).off + 1, none⟩ = some (.int .i64 ((rd_T27 l1 x9_2).f1)) ∧ w25.cell? ⟨(ad256.add ((x9_2).toNat * 3)).block, (ad256.add ((x9_2).toNat * 3)).off + 2, none⟩ = some (.int .i64 ((rd_T27 l1 x9_2).f2)) := hS_
                  refine norm_ (a' := ?_) ?_ ?_
                  rotate_left
                  · simp only [putAll, Act.put, List.setIfInBounds_toArray, List.set_cons_zero, List.set_cons_succ]
                    rfl
                  refine one_ (i := 11) (N := none) #[true, true, true, true, true, true, true, true, true, true, true, true, false] rfl rfl (one_of HT_.out (by kernel_rfl)) (by decide) (fun K hK => ?_)
                  have hs26 : w25.cell? ⟨gb262, 0, none⟩ = some (.int .i64 0) := (blk_cell BK262.out 0).trans rfl
                  have hfs26 := blk_frozen BK262.out 0
                  have hns26_0 := NB249_262.out
                  have hns26_1 := NB255_262.out
                  have hms26_0 := NB262_249.out
                  have hms26_1 := NB262_255.out
                  have hs27 : w25.cell? ⟨gb262, 1, none⟩ = some (.int .i64 0) := (blk_cell BK262.out 1).trans rfl
                  have hfs27 := blk_frozen BK262.out 1
                  have hns27_0 := NB249_262.out
                  have hns27_1 := NB255_262.out
                  have hms27_0 := NB262_249.out
                  have hms27_1 := NB262_255.out
                  have hs28 : w25.cell? ⟨gb262, 2, none⟩ = some (.int .i64 0) := (blk_cell BK262.out 2).trans rfl
                  have hfs28 := blk_frozen BK262.out 2
                  have hns28_0 := NB249_262.out
                  have hns28_1 := NB255_262.out
                  have hms28_0 := NB262_249.out
                  have hms28_1 := NB262_255.out
                  have hs29 : w25.cell? ⟨gb262, 3, none⟩ = some (.bool false) := (blk_cell BK262.out 3).trans rfl
                  have hfs29 := blk_frozen BK262.out 3
                  have hns29_0 := NB249_262.out
                  have hns29_1 := NB255_262.out
                  have hms29_0 := NB262_249.out
                  have hms29_1 := NB262_255.out
                  refine skip_ (w1 := ?_) (by rfl) rfl ?_ ?_
                  rotate_left
                  · go_simp
                    rfl
                  refine hK.out _ _ ⟨((cell_far (p := ⟨gb262, _, none⟩) NB249_262.out _).trans (((cell_far (p := ⟨gb262, _, none⟩) NB249_262.out _).trans (((cell_far (p := ⟨gb262, _, none⟩) NB249_262.out _).trans (((cell_far (p := ⟨gb262, _, none⟩) NB249_262.out _).trans (hHeld.1)))))))), ((cell_far (p := ⟨gb262, _, none⟩) NB249_262.out _).trans (((cell_far (p := ⟨gb262, _, none⟩) NB249_262.out _).trans (((cell_far (p := ⟨gb262, _, none⟩) NB249_262.out _).trans (((cell_far (p := ⟨gb262, _, none⟩) NB249_262.out _).trans (hHeld.2.1)))))))), ((cell_far (p := ⟨gb262, _, none⟩) NB249_262.out _).trans (((cell_far (p := ⟨gb262, _, none⟩) NB249_262.out _).trans (((cell_far (p := ⟨gb262, _, none⟩) NB249_262.out _).trans (((cell_far (p := ⟨gb262, _, none⟩) NB249_262.out _).trans (hHeld.2.2.1)))))))), ((cell_far (p := ⟨gb262, _, none⟩) NB249_262.out _).trans (((cell_far (p := ⟨gb262, _, none⟩) NB249_262.out _).trans (((cell_far (p := ⟨gb262, _, none⟩) NB249_262.out _).trans (((cell_far (p := ⟨gb262, _, none⟩) NB249_262.out _).trans (hHeld.2.2.2.1)))))))), ((cell_far (p := ⟨gb262, _, none⟩) NB249_262.out _).trans (((cell_far (p := ⟨gb262, _, none⟩) NB249_262.out _).trans (((cell_far (p := ⟨gb262, _, none⟩) NB249_262.out _).trans (((cell_far (p := ⟨gb262, _, none⟩) NB249_262.out _).trans (hHeld.2.2.2.2.1)))))))), ((cell_far (p := ⟨gb262, _, none⟩) NB249_262.out _).trans (((cell_far (p := ⟨gb262, _, none⟩) NB249_262.out _).trans (((cell_far (p := ⟨gb262, _, none⟩) NB249_262.out _).trans (((cell_far (p := ⟨gb262, _, none⟩) NB249_262.out _).trans (hHeld.2.2.2.2.2.1)))))))), ((cell_far (p := ⟨gb262, _, none⟩) NB249_262.out _).trans (((cell_far (p := ⟨gb262, _, none⟩) NB249_262.out _).trans (((cell_far (p := ⟨gb262, _, none⟩) NB249_262.out _).trans (((cell_far (p := ⟨gb262, _, none⟩) NB249_262.out _).trans (hHeld.2.2.2.2.2.2.1)))))))), ((cell_far (p := ⟨gb262, _, none⟩) NB249_262.out _).trans (((cell_far (p := ⟨gb262, _, none⟩) NB249_262.out _).trans (((cell_far (p := ⟨gb262, _, none⟩) NB249_262.out _).trans (((cell_far (p := ⟨gb262, _, none⟩) NB249_262.out _).trans (hHeld.2.2.2.2.2.2.2.1)))))))), ((cell_far (p := ⟨gb262, _, none⟩) NB255_262.out _).trans (((cell_far (p := ⟨gb262, _, none⟩) NB255_262.out _).trans (((cell_far (p := ⟨gb262, _, none⟩) NB255_262.out _).trans (((cell_far (p := ⟨gb262, _, none⟩) NB255_262.out _).trans (hHeld.2.2.2.2.2.2.2.2.1)))))))), ((cell_far (p := ⟨gb262, _, none⟩) NB255_262.out _).trans (((cell_far (p := ⟨gb262, _, none⟩) NB255_262.out _).trans (((cell_far (p := ⟨gb262, _, none⟩) NB255_262.out _).trans (((cell_far (p := ⟨gb262, _, none⟩) NB255_262.out _).trans (hHeld.2.2.2.2.2.2.2.2.2.1)))))))), ((cell_far (p := ⟨gb262, _, none⟩) NB255_262.out _).trans (((cell_far (p := ⟨gb262, _, none⟩) NB255_262.out _).trans (((cell_far (p := ⟨gb262, _, none⟩) NB255_262.out _).trans (((cell_far (p := ⟨gb262, _, none⟩) NB255_262.out _).trans (hHeld.2.2.2.2.2.2.2.2.2.2.1)))))))), ((cell_far (p := ⟨gb262, _, none⟩) NB255_262.out _).trans (((cell_far (p := ⟨gb262, _, none⟩) NB255_262.out _).trans (((cell_far (p := ⟨gb262, _, none⟩) NB255_262.out _).trans (((cell_far (p := ⟨gb262, _, none⟩) NB255_262.out _).trans (hHeld.2.2.2.2.2.2.2.2.2.2.2.1)))))))), ((cell_far (p := ⟨gb262, _, none⟩) (by first | exact Nat.ne_of_lt (Nat.lt_of_lt_of_le (by have := World.block_lt_of_cell? _ _ hw256_0; first | rwa [add_block] at this | exact this) GW262.out) | (rw [add_block]; exact Nat.ne_of_lt (Nat.lt_of_lt_of_le (by have := World.block_lt_of_cell? _ _ hw256_0; first | rwa [add_block] at this | exact this) GW262.out)) | (show (Addr.add _ _).block ≠ _; rw [add_block]; exact Nat.ne_of_lt (Nat.lt_of_lt_of_le (by have := World.block_lt_of_cell? _ _ hw256_0; first | rwa [add_block] at this | exact this) GW262.out)) | (dsimp only; exact Nat.ne_of_lt (Nat.lt_of_lt_of_le (by have := World.block_lt_of_cell? _ _ hw256_0; first | rwa [add_block] at this | exact this) GW262.out))) _).trans (((cell_far (p := ⟨gb262, _, none⟩) (by first | exact Nat.ne_of_lt (Nat.lt_of_lt_of_le (by have := World.block_lt_of_cell? _ _ hw256_0; first | rwa [add_block] at this | exact this) GW262.out) | (rw [add_block]; exact Nat.ne_of_lt (Nat.lt_of_lt_of_le (by have := World.block_lt_of_cell? _ _ hw256_0; first | rwa [add_block] at this | exact this) GW262.out)) | (show (Addr.add _ _).block ≠ _; rw [add_block]; exact Nat.ne_of_lt (Nat.lt_of_lt_of_le (by have := World.block_lt_of_cell? _ _ hw256_0; first | rwa [add_block] at this | exact this) GW262.out)) | (dsimp only; exact Nat.ne_of_lt (Nat.lt_of_lt_of_le (by have := World.block_lt_of_cell? _ _ hw256_0; first | rwa [add_block] at this | exact this) GW262.out))) _).trans (((cell_far (p := ⟨gb262, _, none⟩) (by first | exact Nat.ne_of_lt (Nat.lt_of_lt_of_le (by have := World.block_lt_of_cell? _ _ hw256_0; first | rwa [add_block] at this | exact this) GW262.out) | (rw [add_block]; exact Nat.ne_of_lt (Nat.lt_of_lt_of_le (by have := World.block_lt_of_cell? _ _ hw256_0; first | rwa [add_block] at this | exact this) GW262.out)) | (show (Addr.add _ _).block ≠ _; rw [add_block]; exact Nat.ne_of_lt (Nat.lt_of_lt_of_le (by have := World.block_lt_of_cell? _ _ hw256_0; first | rwa [add_block] at this | exact this) GW262.out)) | (dsimp only; exact Nat.ne_of_lt (Nat.lt_of_lt_of_le (by have := World.block_lt_of_cell? _ _ hw256_0; first | rwa [add_block] at this | exact this) GW262.out))) _).trans (((cell_far (p := ⟨gb262, _, none⟩) (by first | exact Nat.ne_of_lt (Nat.lt_of_lt_of_le (by have := World.block_lt_of_cell? _ _ hw256_0; first | rwa [add_block] at this | exact this) GW262.out) | (rw [add_block]; exact Nat.ne_of_lt (Nat.lt_of_lt_of_le (by have := World.block_lt_of_cell? _ _ hw256_0; first | rwa [add_block] at this | exact this) GW262.out)) | (show (Addr.add _ _).block ≠ _; rw [add_block]; exact Nat.ne_of_lt (Nat.lt_of_lt_of_le (by have := World.block_lt_of_cell? _ _ hw256_0; first | rwa [add_block] at this | exact this) GW262.out)) | (dsimp only; exact Nat.ne_of_lt (Nat.lt_of_lt_of_le (by have := World.block_lt_of_cell? _ _ hw256_0; first | rwa [add_block] at this | exact this) GW262.out))) _).trans (hHeld.2.2.2.2.2.2.2.2.2.2.2.2.1)))))))), ((cell_far (p := ⟨gb262, _, none⟩) (by first | exact Nat.ne_of_lt (Nat.lt_of_lt_of_le (by have := World.block_lt_of_cell? _ _ hw256_1; first | rwa [add_block] at this | exact this) GW262.out) | (rw [add_block]; exact Nat.ne_of_lt (Nat.lt_of_lt_of_le (by have := World.block_lt_of_cell? _ _ hw256_1; first | rwa [add_block] at this | exact this) GW262.out)) | (show (Addr.add _ _).block ≠ _; rw [add_block]; exact Nat.ne_of_lt (Nat.lt_of_lt_of_le (by have := World.block_lt_of_cell? _ _ hw256_1; first | rwa [add_block] at this | exact this) GW262.out)) | (dsimp only; exact Nat.ne_of_lt (Nat.lt_of_lt_of_le (by have := World.block_lt_of_cell? _ _ hw256_1; first | rwa [add_block] at this | exact this) GW262.out))) _).trans (((cell_far (p := ⟨gb262, _, none⟩) (by first | exact Nat.ne_of_lt (Nat.lt_of_lt_of_le (by have := World.block_lt_of_cell? _ _ hw256_1; first | rwa [add_block] at this | exact this) GW262.out) | (rw [add_block]; exact Nat.ne_of_lt (Nat.lt_of_lt_of_le (by have := World.block_lt_of_cell? _ _ hw256_1; first | rwa [add_block] at this | exact this) GW262.out)) | (show (Addr.add _ _).block ≠ _; rw [add_block]; exact Nat.ne_of_lt (Nat.lt_of_lt_of_le (by have := World.block_lt_of_cell? _ _ hw256_1; first | rwa [add_block] at this | exact this) GW262.out)) | (dsimp only; exact Nat.ne_of_lt (Nat.lt_of_lt_of_le (by have := World.block_lt_of_cell? _ _ hw256_1; first | rwa [add_block] at this | exact this) GW262.out))) _).trans (((cell_far (p := ⟨gb262, _, none⟩) (by first | exact Nat.ne_of_lt (Nat.lt_of_lt_of_le (by have := World.block_lt_of_cell? _ _ hw256_1; first | rwa [add_block] at this | exact this) GW262.out) | (rw [add_block]; exact Nat.ne_of_lt (Nat.lt_of_lt_of_le (by have := World.block_lt_of_cell? _ _ hw256_1; first | rwa [add_block] at this | exact this) GW262.out)) | (show (Addr.add _ _).block ≠ _; rw [add_block]; exact Nat.ne_of_lt (Nat.lt_of_lt_of_le (by have := World.block_lt_of_cell? _ _ hw256_1; first | rwa [add_block] at this | exact this) GW262.out)) | (dsimp only; exact Nat.ne_of_lt (Nat.lt_of_lt_of_le (by have := World.block_lt_of_cell? _ _ hw256_1; first | rwa [add_block] at this | exact this) GW262.out))) _).trans (((cell_far (p := ⟨gb262, _, none⟩) (by first | exact Nat.ne_of_lt (Nat.lt_of_lt_of_le (by have := World.block_lt_of_cell? _ _ hw256_1; first | rwa [add_block] at this | exact this) GW262.out) | (rw [add_block]; exact Nat.ne_of_lt (Nat.lt_of_lt_of_le (by have := World.block_lt_of_cell? _ _ hw256_1; first | rwa [add_block] at this | exact this) GW262.out)) | (show (Addr.add _ _).block ≠ _; rw [add_block]; exact Nat.ne_of_lt (Nat.lt_of_lt_of_le (by have := World.block_lt_of_cell? _ _ hw256_1; first | rwa [add_block] at this | exact this) GW262.out)) | (dsimp only; exact Nat.ne_of_lt (Nat.lt_of_lt_of_le (by have := World.block_lt_of_cell? _ _ hw256_1; first | rwa [add_block] at this | exact this) GW262.out))) _).trans (hHeld.2.2.2.2.2.2.2.2.2.2.2.2.2.1)))))))), ((cell_far (p := ⟨gb262, _, none⟩) (by first | exact Nat.ne_of_lt (Nat.lt_of_lt_of_le (by have := World.block_lt_of_cell? _ _ hw256_2; first | rwa [add_block] at this | exact this) GW262.out) | (rw [add_block]; exact Nat.ne_of_lt (Nat.lt_of_lt_of_le (by have := World.block_lt_of_cell? _ _ hw256_2; first | rwa [add_block] at this | exact this) GW262.out)) | (show (Addr.add _ _).block ≠ _; rw [add_block]; exact Nat.ne_of_lt (Nat.lt_of_lt_of_le (by have := World.block_lt_of_cell? _ _ hw256_2; first | rwa [add_block] at this | exact this) GW262.out)) | (dsimp only; exact Nat.ne_of_lt (Nat.lt_of_lt_of_le (by have := World.block_lt_of_cell? _ _ hw256_2; first | rwa [add_block] at this | exact this) GW262.out))) _).trans (((cell_far (p := ⟨gb262, _, none⟩) (by first | exact Nat.ne_of_lt (Nat.lt_of_lt_of_le (by have := World.block_lt_of_cell? _ _ hw256_2; first | rwa [add_block] at this | exact this) GW262.out) | (rw [add_block]; exact Nat.ne_of_lt (Nat.lt_of_lt_of_le (by have := World.block_lt_of_cell? _ _ hw256_2; first | rwa [add_block] at this | exact this) GW262.out)) | (show (Addr.add _ _).block ≠ _; rw [add_block]; exact Nat.ne_of_lt (Nat.lt_of_lt_of_le (by have := World.block_lt_of_cell? _ _ hw256_2; first | rwa [add_block] at this | exact this) GW262.out)) | (dsimp only; exact Nat.ne_of_lt (Nat.lt_of_lt_of_le (by have := World.block_lt_of_cell? _ _ hw256_2; first | rwa [add_block] at this | exact this) GW262.out))) _).trans (((cell_far (p := ⟨gb262, _, none⟩) (by first | exact Nat.ne_of_lt (Nat.lt_of_lt_of_le (by have := World.block_lt_of_cell? _ _ hw256_2; first | rwa [add_block] at this | exact this) GW262.out) | (rw [add_block]; exact Nat.ne_of_lt (Nat.lt_of_lt_of_le (by have := World.block_lt_of_cell? _ _ hw256_2; first | rwa [add_block] at this | exact this) GW262.out)) | (show (Addr.add _ _).block ≠ _; rw [add_block]; exact Nat.ne_of_lt (Nat.lt_of_lt_of_le (by have := World.block_lt_of_cell? _ _ hw256_2; first | rwa [add_block] at this | exact this) GW262.out)) | (dsimp only; exact Nat.ne_of_lt (Nat.lt_of_lt_of_le (by have := World.block_lt_of_cell? _ _ hw256_2; first | rwa [add_block] at this | exact this) GW262.out))) _).trans (((cell_far (p := ⟨gb262, _, none⟩) (by first | exact Nat.ne_of_lt (Nat.lt_of_lt_of_le (by have := World.block_lt_of_cell? _ _ hw256_2; first | rwa [add_block] at this | exact this) GW262.out) | (rw [add_block]; exact Nat.ne_of_lt (Nat.lt_of_lt_of_le (by have := World.block_lt_of_cell? _ _ hw256_2; first | rwa [add_block] at this | exact this) GW262.out)) | (show (Addr.add _ _).block ≠ _; rw [add_block]; exact Nat.ne_of_lt (Nat.lt_of_lt_of_le (by have := World.block_lt_of_cell? _ _ hw256_2; first | rwa [add_block] at this | exact this) GW262.out)) | (dsimp only; exact Nat.ne_of_lt (Nat.lt_of_lt_of_le (by have := World.block_lt_of_cell? _ _ hw256_2; first | rwa [add_block] at this | exact this) GW262.out))) _).trans (hHeld.2.2.2.2.2.2.2.2.2.2.2.2.2.2))))))))⟩ (fun hHeld => ?_)
                  clear hK K
                  refine pure_ (i := 12) (N := some 11) (v := ?_) (a' := ?_) #[true, true, true, true, true, true, true, true, true, true, true, true, true] rfl rfl (any_of HT_.out (by kernel_rfl)) (fun _ _ _ h => h) (Or.inl ⟨by rfl, ?_⟩) ?_ ?_
                  rotate_left
                  · intro w'
                    go_simp
                    with_reducible rfl
                  rotate_left
                  · simp only [Act.put, List.setIfInBounds_toArray, List.set_cons_zero, List.set_cons_succ, i64_w, i32_w]
                    rfl
                  refine done_ (done_of HT_.out (by kernel_rfl)) ?_
                  have hnb30 := NB262_249.out
                  have hnc30 := NB249_262.out
                  have hnb31 := NB262_255.out
                  have hnc31 := NB255_262.out
                  have hcz32_0 : w25.cell? ⟨gb262, 0, none⟩ = some (.int .i64 0) := (blk_cell BK262.out 0).trans rfl
                  have hcz32_1 : w25.cell? ⟨gb262, 1, none⟩ = some (.int .i64 0) := (blk_cell BK262.out 1).trans rfl
                  have hcz32_2 : w25.cell? ⟨gb262, 2, none⟩ = some (.int .i64 0) := (blk_cell BK262.out 2).trans rfl
                  have hcz32_3 : w25.cell? ⟨gb262, 3, none⟩ = some (.bool false) := (blk_cell BK262.out 3).trans rfl
                  have hfz32_0 := blk_frozen BK262.out 0
                  have hfz32_1 := blk_frozen BK262.out 1
                  have hfz32_2 := blk_frozen BK262.out 2
                  have hfz32_3 := blk_frozen BK262.out 3
                  have hnb33 := NB255_249.out
                  have hnc33 := NB249_255.out
                  have hcz34_0 : w25.cell? ⟨gb255, 0, none⟩ = some (.int .i64 x256000_2) := (blk_cell BK255.out 0).trans rfl
                  have hcz34_1 : w25.cell? ⟨gb255, 1, none⟩ = some (.int .i64 x256001_2) := (blk_cell BK255.out 1).trans rfl
                  have hcz34_2 : w25.cell? ⟨gb255, 2, none⟩ = some (.int .i64 x256002_2) := (blk_cell BK255.out 2).trans rfl
                  have hcz34_3 : w25.cell? ⟨gb255, 3, none⟩ = some (.bool x256003_2) := (blk_cell BK255.out 3).trans rfl
                  have hfz34_0 := blk_frozen BK255.out 0
                  have hfz34_1 := blk_frozen BK255.out 1
                  have hfz34_2 := blk_frozen BK255.out 2
                  have hfz34_3 := blk_frozen BK255.out 3
                  have p263 : 0 ≤ (x9_2 : Int) := of_decide_eq_true (by first | (with_reducible assumption) | assumption)
                  have q263 : x9_2 < (l1.length : Int) := of_decide_eq_true (by first | (with_reducible assumption) | assumption)
                  obtain ⟨ad263, e263, hx263_0, hx263_1, hx263_2⟩ := at_T27 HR1.out x9_2 p263 q263
                  obtain rfl : ad256 = ad263 := (by injection e263)
                  have hn263_0 : ad256.block ≠ gb262 := Nat.ne_of_lt (Nat.lt_of_lt_of_le (by have := World.block_lt_of_cell? _ _ hx263_0; first | rwa [add_block] at this | exact this) GW262.out)
                  have hn263_1 : ad256.block ≠ gb262 := Nat.ne_of_lt (Nat.lt_of_lt_of_le (by have := World.block_lt_of_cell? _ _ hx263_0; first | rwa [add_block] at this | exact this) GW262.out)
                  have hn263_2 : ad256.block ≠ gb262 := Nat.ne_of_lt (Nat.lt_of_lt_of_le (by have := World.block_lt_of_cell? _ _ hx263_0; first | rwa [add_block] at this | exact this) GW262.out)
                  have hn263_3 : ad256.block ≠ gb262 := Nat.ne_of_lt (Nat.lt_of_lt_of_le (by have := World.block_lt_of_cell? _ _ hx263_0; first | rwa [add_block] at this | exact this) GW262.out)
                  have hn263_4 : ad256.block ≠ gb255 := Nat.ne_of_lt (Nat.lt_of_lt_of_le (by have := World.block_lt_of_cell? _ _ hx263_0; first | rwa [add_block] at this | exact this) GW255.out)
                  have hn263_5 : ad256.block ≠ gb255 := Nat.ne_of_lt (Nat.lt_of_lt_of_le (by have := World.block_lt_of_cell? _ _ hx263_0; first | rwa [add_block] at this | exact this) GW255.out)
                  have hn263_6 : ad256.block ≠ gb255 := Nat.ne_of_lt (Nat.lt_of_lt_of_le (by have := World.block_lt_of_cell? _ _ hx263_0; first | rwa [add_block] at this | exact this) GW255.out)
                  have hn263_7 : ad256.block ≠ gb255 := Nat.ne_of_lt (Nat.lt_of_lt_of_le (by have := World.block_lt_of_cell? _ _ hx263_0; first | rwa [add_block] at this | exact this) GW255.out)
                  replace hx263_0 := (HB.out.cell (World.block_lt_of_cell? w _ hx263_0)).trans hx263_0
                  replace hx263_1 := (HB.out.cell (World.block_lt_of_cell? w _ hx263_1)).trans hx263_1
                  replace hx263_2 := (HB.out.cell (World.block_lt_of_cell? w _ hx263_2)).trans hx263_2
                  replace hx263_0 := (cell_far (p := ⟨gb262, 0, none⟩) (by first | (rw [add_block]; exact hn263_0) | (show (Addr.add _ _).block ≠ _; rw [add_block]; exact hn263_0) | exact hn263_0) (.int .i64 t257)).trans hx263_0
                  replace hx263_1 := (cell_far (p := ⟨gb262, 0, none⟩) (by first | (rw [add_block]; exact hn263_0) | (show (Addr.add _ _).block ≠ _; rw [add_block]; exact hn263_0) | exact hn263_0) (.int .i64 t257)).trans hx263_1
                  replace hx263_2 := (cell_far (p := ⟨gb262, 0, none⟩) (by first | (rw [add_block]; exact hn263_0) | (show (Addr.add _ _).block ≠ _; rw [add_block]; exact hn263_0) | exact hn263_0) (.int .i64 t257)).trans hx263_2
                  replace hx263_0 := (cell_far (p := ⟨gb262, 1, none⟩) (by first | (rw [add_block]; exact hn263_1) | (show (Addr.add _ _).block ≠ _; rw [add_block]; exact hn263_1) | exact hn263_1) (.int .i64 t258)).trans hx263_0
                  replace hx263_1 := (cell_far (p := ⟨gb262, 1, none⟩) (by first | (rw [add_block]; exact hn263_1) | (show (Addr.add _ _).block ≠ _; rw [add_block]; exact hn263_1) | exact hn263_1) (.int .i64 t258)).trans hx263_1
                  replace hx263_2 := (cell_far (p := ⟨gb262, 1, none⟩) (by first | (rw [add_block]; exact hn263_1) | (show (Addr.add _ _).block ≠ _; rw [add_block]; exact hn263_1) | exact hn263_1) (.int .i64 t258)).trans hx263_2
                  replace hx263_0 := (cell_far (p := ⟨gb262, 2, none⟩) (by first | (rw [add_block]; exact hn263_2) | (show (Addr.add _ _).block ≠ _; rw [add_block]; exact hn263_2) | exact hn263_2) (.int .i64 t259)).trans hx263_0
                  replace hx263_1 := (cell_far (p := ⟨gb262, 2, none⟩) (by first | (rw [add_block]; exact hn263_2) | (show (Addr.add _ _).block ≠ _; rw [add_block]; exact hn263_2) | exact hn263_2) (.int .i64 t259)).trans hx263_1
                  replace hx263_2 := (cell_far (p := ⟨gb262, 2, none⟩) (by first | (rw [add_block]; exact hn263_2) | (show (Addr.add _ _).block ≠ _; rw [add_block]; exact hn263_2) | exact hn263_2) (.int .i64 t259)).trans hx263_2
                  replace hx263_0 := (cell_far (p := ⟨gb262, 3, none⟩) (by first | (rw [add_block]; exact hn263_3) | (show (Addr.add _ _).block ≠ _; rw [add_block]; exact hn263_3) | exact hn263_3) (.bool t260)).trans hx263_0
                  replace hx263_1 := (cell_far (p := ⟨gb262, 3, none⟩) (by first | (rw [add_block]; exact hn263_3) | (show (Addr.add _ _).block ≠ _; rw [add_block]; exact hn263_3) | exact hn263_3) (.bool t260)).trans hx263_1
                  replace hx263_2 := (cell_far (p := ⟨gb262, 3, none⟩) (by first | (rw [add_block]; exact hn263_3) | (show (Addr.add _ _).block ≠ _; rw [add_block]; exact hn263_3) | exact hn263_3) (.bool t260)).trans hx263_2
                  replace hx263_0 := (cell_far (p := ⟨gb255, 0, none⟩) (by first | (rw [add_block]; exact hn263_4) | (show (Addr.add _ _).block ≠ _; rw [add_block]; exact hn263_4) | exact hn263_4) (.int .i64 t257)).trans hx263_0
                  replace hx263_1 := (cell_far (p := ⟨gb255, 0, none⟩) (by first | (rw [add_block]; exact hn263_4) | (show (Addr.add _ _).block ≠ _; rw [add_block]; exact hn263_4) | exact hn263_4) (.int .i64 t257)).trans hx263_1
                  replace hx263_2 := (cell_far (p := ⟨gb255, 0, none⟩) (by first | (rw [add_block]; exact hn263_4) | (show (Addr.add _ _).block ≠ _; rw [add_block]; exact hn263_4) | exact hn263_4) (.int .i64 t257)).trans hx263_2
                  replace hx263_0 := (cell_far (p := ⟨gb255, 1, none⟩) (by first | (rw [add_block]; exact hn263_5) | (show (Addr.add _ _).block ≠ _; rw [add_block]; exact hn263_5) | exact hn263_5) (.int .i64 t258)).trans hx263_0
                  replace hx263_1 := (cell_far (p := ⟨gb255, 1, none⟩) (by first | (rw [add_block]; exact hn263_5) | (show (Addr.add _ _).block ≠ _; rw [add_block]; exact hn263_5) | exact hn263_5) (.int .i64 t258)).trans hx263_1
                  replace hx263_2 := (cell_far (p := ⟨gb255, 1, none⟩) (by first | (rw [add_block]; exact hn263_5) | (show (Addr.add _ _).block ≠ _; rw [add_block]; exact hn263_5) | exact hn263_5) (.int .i64 t258)).trans hx263_2
                  replace hx263_0 := (cell_far (p := ⟨gb255, 2, none⟩) (by first | (rw [add_block]; exact hn263_6) | (show (Addr.add _ _).block ≠ _; rw [add_block]; exact hn263_6) | exact hn263_6) (.int .i64 t259)).trans hx263_0
                  replace hx263_1 := (cell_far (p := ⟨gb255, 2, none⟩) (by first | (rw [add_block]; exact hn263_6) | (show (Addr.add _ _).block ≠ _; rw [add_block]; exact hn263_6) | exact hn263_6) (.int .i64 t259)).trans hx263_1
                  replace hx263_2 := (cell_far (p := ⟨gb255, 2, none⟩) (by first | (rw [add_block]; exact hn263_6) | (show (Addr.add _ _).block ≠ _; rw [add_block]; exact hn263_6) | exact hn263_6) (.int .i64 t259)).trans hx263_2
                  replace hx263_0 := (cell_far (p := ⟨gb255, 3, none⟩) (by first | (rw [add_block]; exact hn263_7) | (show (Addr.add _ _).block ≠ _; rw [add_block]; exact hn263_7) | exact hn263_7) (.bool t260)).trans hx263_0
                  replace hx263_1 := (cell_far (p := ⟨gb255, 3, none⟩) (by first | (rw [add_block]; exact hn263_7) | (show (Addr.add _ _).block ≠ _; rw [add_block]; exact hn263_7) | exact hn263_7) (.bool t260)).trans hx263_1
                  replace hx263_2 := (cell_far (p := ⟨gb255, 3, none⟩) (by first | (rw [add_block]; exact hn263_7) | (show (Addr.add _ _).block ≠ _; rw [add_block]; exact hn263_7) | exact hn263_7) (.bool t260)).trans hx263_2
                  clear hn263_0
                  clear hn263_1
                  clear hn263_2
                  clear hn263_3
                  clear hn263_4
                  clear hn263_5
                  clear hn263_6
                  clear hn263_7
                  replace p263 := eq_true p263
                  replace q263 := eq_true q263
                  go_upto_block 2 with (fail)
                  go_cut [8] (fun v8 wc => ∃ (kq : Nat) (x8_20 : Int), v8 = .int .i64 x8_20 ∧ Aside0 (chargeparklaw12_ChargerOrder.j3 kq l1 x5_2 x8_20 x9_2 a0_0 a0_1 a0_2 a0_3 a0_4 a0_5 a0_6 a0_7 t257 t258 t259 t260 = some r) ∧ Aside0 (kq ≤ k2) ∧ Aside0 (wc.heap[gb249]? = some (.cells #[.string a0_0, .int .i64 a0_1, .int .i64 a0_2, .int .i64 a0_3, .int .i64 a0_4, .int .i64 a0_5, .int .i64 a0_6, .int .i64 a0_7] 23 (0, 0))) ∧ Aside0 (wc.heap[gb255]? = some (.cells #[.int .i64 t257, .int .i64 t258, .int .i64 t259, .bool t260] 25 (0, 0))) ∧ Aside0 (wc.heap[gb262]? = some (.cells #[.int .i64 t257, .int .i64 t258, .int .i64 t259, .bool t260] 25 (0, 0))) ∧ Aside0 (Below w.heap.size w wc))
                  case first =>
                    have H := HC21.out
                    clear HC21
                    by_cases c35 : ((rd_T27 l1 x9_2).f0) = 1
                    · rw [if_pos c35] at H
                      have c35b0 : (((rd_T27 l1 x9_2).f0) == 1) = true := beq_iff_eq.mpr c35
                      have c35b1 : (((rd_T27 l1 x9_2).f0) != 1) = false := bne_eq_false_iff_eq.mpr c35
                      clear c35
                      (first | rw [c35b0] | (simp only [i64_w, i32_w]; rw [c35b0]) | skip)
                      have H' := Aside0.mk H
                      clear H
                      go_wp2
                      go_meet
                      case rel => exact ⟨_, (1), (by first | rfl | (simp; done) | (simp [*]; done)), H', ⟨by have := HJ4.out; have := HK2.out; first | omega | exact Nat.le_refl _⟩, ⟨by (with_reducible repeat (first | refine blk_drewN ?_ _ | refine blk_drew ?_ | refine blk_alloc ?_ _)); refine blk_far ?_ NB249_255.out _; (with_reducible repeat (first | refine blk_drewN ?_ _ | refine blk_drew ?_ | refine blk_alloc ?_ _)); refine blk_far ?_ NB249_255.out _; (with_reducible repeat (first | refine blk_drewN ?_ _ | refine blk_drew ?_ | refine blk_alloc ?_ _)); refine blk_far ?_ NB249_255.out _; (with_reducible repeat (first | refine blk_drewN ?_ _ | refine blk_drew ?_ | refine blk_alloc ?_ _)); refine blk_far ?_ NB249_255.out _; (with_reducible repeat (first | refine blk_drewN ?_ _ | refine blk_drew ?_ | refine blk_alloc ?_ _)); refine blk_far ?_ NB249_262.out _; (with_reducible repeat (first | refine blk_drewN ?_ _ | refine blk_drew ?_ | refine blk_alloc ?_ _)); refine blk_far ?_ NB249_262.out _; (with_reducible repeat (first | refine blk_drewN ?_ _ | refine blk_drew ?_ | refine blk_alloc ?_ _)); refine blk_far ?_ NB249_262.out _; (with_reducible repeat (first | refine blk_drewN ?_ _ | refine blk_drew ?_ | refine blk_alloc ?_ _)); refine blk_far ?_ NB249_262.out _; (with_reducible repeat (first | refine blk_drewN ?_ _ | refine blk_drew ?_ | refine blk_alloc ?_ _)); exact BK249.out⟩, ⟨by (with_reducible repeat (first | refine blk_drewN ?_ _ | refine blk_drew ?_ | refine blk_alloc ?_ _)); refine blk_put (cs := #[.int .i64 t257, .int .i64 t258, .int .i64 t259, .bool x256003_2]) ?_ 3 _ rfl; (with_reducible repeat (first | refine blk_drewN ?_ _ | refine blk_drew ?_ | refine blk_alloc ?_ _)); refine blk_put (cs := #[.int .i64 t257, .int .i64 t258, .int .i64 x256002_2, .bool x256003_2]) ?_ 2 _ rfl; (with_reducible repeat (first | refine blk_drewN ?_ _ | refine blk_drew ?_ | refine blk_alloc ?_ _)); refine blk_put (cs := #[.int .i64 t257, .int .i64 x256001_2, .int .i64 x256002_2, .bool x256003_2]) ?_ 1 _ rfl; (with_reducible repeat (first | refine blk_drewN ?_ _ | refine blk_drew ?_ | refine blk_alloc ?_ _)); refine blk_put (cs := #[.int .i64 x256000_2, .int .i64 x256001_2, .int .i64 x256002_2, .bool x256003_2]) ?_ 0 _ rfl; (with_reducible repeat (first | refine blk_drewN ?_ _ | refine blk_drew ?_ | refine blk_alloc ?_ _)); refine blk_far ?_ NB255_262.out _; (with_reducible repeat (first | refine blk_drewN ?_ _ | refine blk_drew ?_ | refine blk_alloc ?_ _)); refine blk_far ?_ NB255_262.out _; (with_reducible repeat (first | refine blk_drewN ?_ _ | refine blk_drew ?_ | refine blk_alloc ?_ _)); refine blk_far ?_ NB255_262.out _; (with_reducible repeat (first | refine blk_drewN ?_ _ | refine blk_drew ?_ | refine blk_alloc ?_ _)); refine blk_far ?_ NB255_262.out _; (with_reducible repeat (first | refine blk_drewN ?_ _ | refine blk_drew ?_ | refine blk_alloc ?_ _)); exact BK255.out⟩, ⟨by (with_reducible repeat (first | refine blk_drewN ?_ _ | refine blk_drew ?_ | refine blk_alloc ?_ _)); refine blk_far ?_ NB262_255.out _; (with_reducible repeat (first | refine blk_drewN ?_ _ | refine blk_drew ?_ | refine blk_alloc ?_ _)); refine blk_far ?_ NB262_255.out _; (with_reducible repeat (first | refine blk_drewN ?_ _ | refine blk_drew ?_ | refine blk_alloc ?_ _)); refine blk_far ?_ NB262_255.out _; (with_reducible repeat (first | refine blk_drewN ?_ _ | refine blk_drew ?_ | refine blk_alloc ?_ _)); refine blk_far ?_ NB262_255.out _; (with_reducible repeat (first | refine blk_drewN ?_ _ | refine blk_drew ?_ | refine blk_alloc ?_ _)); refine blk_put (cs := #[.int .i64 t257, .int .i64 t258, .int .i64 t259, .bool false]) ?_ 3 _ rfl; (with_reducible repeat (first | refine blk_drewN ?_ _ | refine blk_drew ?_ | refine blk_alloc ?_ _)); refine blk_put (cs := #[.int .i64 t257, .int .i64 t258, .int .i64 0, .bool false]) ?_ 2 _ rfl; (with_reducible repeat (first | refine blk_drewN ?_ _ | refine blk_drew ?_ | refine blk_alloc ?_ _)); refine blk_put (cs := #[.int .i64 t257, .int .i64 0, .int .i64 0, .bool false]) ?_ 1 _ rfl; (with_reducible repeat (first | refine blk_drewN ?_ _ | refine blk_drew ?_ | refine blk_alloc ?_ _)); refine blk_put (cs := #[.int .i64 0, .int .i64 0, .int .i64 0, .bool false]) ?_ 0 _ rfl; (with_reducible repeat (first | refine blk_drewN ?_ _ | refine blk_drew ?_ | refine blk_alloc ?_ _)); exact BK262.out⟩, ⟨by repeat (first | (with_reducible first | exact HB.out | apply below_alloc | apply pw_below_drewN | apply below_drew1 | refine below_set ?_ GE249.out | refine below_set ?_ GE255.out | refine below_set ?_ GE262.out) | exact HB.out)⟩⟩
                    · rw [if_neg c35] at H
                      have c35b0 : (((rd_T27 l1 x9_2).f0) == 1) = false := beq_eq_false_iff_ne.mpr c35
                      have c35b1 : (((rd_T27 l1 x9_2).f0) != 1) = true := bne_iff_ne.mpr c35
                      (first | rw [c35b0] | (simp only [i64_w, i32_w]; rw [c35b0]) | skip)
                      by_cases c36 : ((rd_T27 l1 x9_2).f0) = 3
                      · rw [if_pos c36] at H
                        have c36b0 : (((rd_T27 l1 x9_2).f0) == 3) = true := beq_iff_eq.mpr c36
                        have c36b1 : (((rd_T27 l1 x9_2).f0) != 3) = false := bne_eq_false_iff_eq.mpr c36
                        clear c36
                        by_cases c37 : x8_2 = 1
                        · rw [if_pos c37] at H
                          have c37b0 : (x8_2 == 1) = true := beq_iff_eq.mpr c37
                          have c37b1 : (x8_2 != 1) = false := bne_eq_false_iff_eq.mpr c37
                          clear c37
                          have H' := Aside0.mk H
                          clear H
                          go_wp2
                          go_meet
                          case rel => exact ⟨_, (2), (by first | rfl | (simp; done) | (simp [*]; done)), H', ⟨by have := HJ4.out; have := HK2.out; first | omega | exact Nat.le_refl _⟩, ⟨by (with_reducible repeat (first | refine blk_drewN ?_ _ | refine blk_drew ?_ | refine blk_alloc ?_ _)); refine blk_far ?_ NB249_255.out _; (with_reducible repeat (first | refine blk_drewN ?_ _ | refine blk_drew ?_ | refine blk_alloc ?_ _)); refine blk_far ?_ NB249_255.out _; (with_reducible repeat (first | refine blk_drewN ?_ _ | refine blk_drew ?_ | refine blk_alloc ?_ _)); refine blk_far ?_ NB249_255.out _; (with_reducible repeat (first | refine blk_drewN ?_ _ | refine blk_drew ?_ | refine blk_alloc ?_ _)); refine blk_far ?_ NB249_255.out _; (with_reducible repeat (first | refine blk_drewN ?_ _ | refine blk_drew ?_ | refine blk_alloc ?_ _)); refine blk_far ?_ NB249_262.out _; (with_reducible repeat (first | refine blk_drewN ?_ _ | refine blk_drew ?_ | refine blk_alloc ?_ _)); refine blk_far ?_ NB249_262.out _; (with_reducible repeat (first | refine blk_drewN ?_ _ | refine blk_drew ?_ | refine blk_alloc ?_ _)); refine blk_far ?_ NB249_262.out _; (with_reducible repeat (first | refine blk_drewN ?_ _ | refine blk_drew ?_ | refine blk_alloc ?_ _)); refine blk_far ?_ NB249_262.out _; (with_reducible repeat (first | refine blk_drewN ?_ _ | refine blk_drew ?_ | refine blk_alloc ?_ _)); exact BK249.out⟩, ⟨by (with_reducible repeat (first | refine blk_drewN ?_ _ | refine blk_drew ?_ | refine blk_alloc ?_ _)); refine blk_put (cs := #[.int .i64 t257, .int .i64 t258, .int .i64 t259, .bool x256003_2]) ?_ 3 _ rfl; (with_reducible repeat (first | refine blk_drewN ?_ _ | refine blk_drew ?_ | refine blk_alloc ?_ _)); refine blk_put (cs := #[.int .i64 t257, .int .i64 t258, .int .i64 x256002_2, .bool x256003_2]) ?_ 2 _ rfl; (with_reducible repeat (first | refine blk_drewN ?_ _ | refine blk_drew ?_ | refine blk_alloc ?_ _)); refine blk_put (cs := #[.int .i64 t257, .int .i64 x256001_2, .int .i64 x256002_2, .bool x256003_2]) ?_ 1 _ rfl; (with_reducible repeat (first | refine blk_drewN ?_ _ | refine blk_drew ?_ | refine blk_alloc ?_ _)); refine blk_put (cs := #[.int .i64 x256000_2, .int .i64 x256001_2, .int .i64 x256002_2, .bool x256003_2]) ?_ 0 _ rfl; (with_reducible repeat (first | refine blk_drewN ?_ _ | refine blk_drew ?_ | refine blk_alloc ?_ _)); refine blk_far ?_ NB255_262.out _; (with_reducible repeat (first | refine blk_drewN ?_ _ | refine blk_drew ?_ | refine blk_alloc ?_ _)); refine blk_far ?_ NB255_262.out _; (with_reducible repeat (first | refine blk_drewN ?_ _ | refine blk_drew ?_ | refine blk_alloc ?_ _)); refine blk_far ?_ NB255_262.out _; (with_reducible repeat (first | refine blk_drewN ?_ _ | refine blk_drew ?_ | refine blk_alloc ?_ _)); refine blk_far ?_ NB255_262.out _; (with_reducible repeat (first | refine blk_drewN ?_ _ | refine blk_drew ?_ | refine blk_alloc ?_ _)); exact BK255.out⟩, ⟨by (with_reducible repeat (first | refine blk_drewN ?_ _ | refine blk_drew ?_ | refine blk_alloc ?_ _)); refine blk_far ?_ NB262_255.out _; (with_reducible repeat (first | refine blk_drewN ?_ _ | refine blk_drew ?_ | refine blk_alloc ?_ _)); refine blk_far ?_ NB262_255.out _; (with_reducible repeat (first | refine blk_drewN ?_ _ | refine blk_drew ?_ | refine blk_alloc ?_ _)); refine blk_far ?_ NB262_255.out _; (with_reducible repeat (first | refine blk_drewN ?_ _ | refine blk_drew ?_ | refine blk_alloc ?_ _)); refine blk_far ?_ NB262_255.out _; (with_reducible repeat (first | refine blk_drewN ?_ _ | refine blk_drew ?_ | refine blk_alloc ?_ _)); refine blk_put (cs := #[.int .i64 t257, .int .i64 t258, .int .i64 t259, .bool false]) ?_ 3 _ rfl; (with_reducible repeat (first | refine blk_drewN ?_ _ | refine blk_drew ?_ | refine blk_alloc ?_ _)); refine blk_put (cs := #[.int .i64 t257, .int .i64 t258, .int .i64 0, .bool false]) ?_ 2 _ rfl; (with_reducible repeat (first | refine blk_drewN ?_ _ | refine blk_drew ?_ | refine blk_alloc ?_ _)); refine blk_put (cs := #[.int .i64 t257, .int .i64 0, .int .i64 0, .bool false]) ?_ 1 _ rfl; (with_reducible repeat (first | refine blk_drewN ?_ _ | refine blk_drew ?_ | refine blk_alloc ?_ _)); refine blk_put (cs := #[.int .i64 0, .int .i64 0, .int .i64 0, .bool false]) ?_ 0 _ rfl; (with_reducible repeat (first | refine blk_drewN ?_ _ | refine blk_drew ?_ | refine blk_alloc ?_ _)); exact BK262.out⟩, ⟨by repeat (first | (with_reducible first | exact HB.out | apply below_alloc | apply pw_below_drewN | apply below_drew1 | refine below_set ?_ GE249.out | refine below_set ?_ GE255.out | refine below_set ?_ GE262.out) | exact HB.out)⟩⟩
                        · rw [if_neg c37] at H
                          have c37b0 : (x8_2 == 1) = false := beq_eq_false_iff_ne.mpr c37
                          have c37b1 : (x8_2 != 1) = true := bne_iff_ne.mpr c37
                          have H' := Aside0.mk H
                          clear H
                          go_wp2
                          go_meet
                          case rel => exact ⟨_, (x8_2), (by first | rfl | (simp; done) | (simp [*]; done)), H', ⟨by have := HJ4.out; have := HK2.out; first | omega | exact Nat.le_refl _⟩, ⟨by (with_reducible repeat (first | refine blk_drewN ?_ _ | refine blk_drew ?_ | refine blk_alloc ?_ _)); refine blk_far ?_ NB249_255.out _; (with_reducible repeat (first | refine blk_drewN ?_ _ | refine blk_drew ?_ | refine blk_alloc ?_ _)); refine blk_far ?_ NB249_255.out _; (with_reducible repeat (first | refine blk_drewN ?_ _ | refine blk_drew ?_ | refine blk_alloc ?_ _)); refine blk_far ?_ NB249_255.out _; (with_reducible repeat (first | refine blk_drewN ?_ _ | refine blk_drew ?_ | refine blk_alloc ?_ _)); refine blk_far ?_ NB249_255.out _; (with_reducible repeat (first | refine blk_drewN ?_ _ | refine blk_drew ?_ | refine blk_alloc ?_ _)); refine blk_far ?_ NB249_262.out _; (with_reducible repeat (first | refine blk_drewN ?_ _ | refine blk_drew ?_ | refine blk_alloc ?_ _)); refine blk_far ?_ NB249_262.out _; (with_reducible repeat (first | refine blk_drewN ?_ _ | refine blk_drew ?_ | refine blk_alloc ?_ _)); refine blk_far ?_ NB249_262.out _; (with_reducible repeat (first | refine blk_drewN ?_ _ | refine blk_drew ?_ | refine blk_alloc ?_ _)); refine blk_far ?_ NB249_262.out _; (with_reducible repeat (first | refine blk_drewN ?_ _ | refine blk_drew ?_ | refine blk_alloc ?_ _)); exact BK249.out⟩, ⟨by (with_reducible repeat (first | refine blk_drewN ?_ _ | refine blk_drew ?_ | refine blk_alloc ?_ _)); refine blk_put (cs := #[.int .i64 t257, .int .i64 t258, .int .i64 t259, .bool x256003_2]) ?_ 3 _ rfl; (with_reducible repeat (first | refine blk_drewN ?_ _ | refine blk_drew ?_ | refine blk_alloc ?_ _)); refine blk_put (cs := #[.int .i64 t257, .int .i64 t258, .int .i64 x256002_2, .bool x256003_2]) ?_ 2 _ rfl; (with_reducible repeat (first | refine blk_drewN ?_ _ | refine blk_drew ?_ | refine blk_alloc ?_ _)); refine blk_put (cs := #[.int .i64 t257, .int .i64 x256001_2, .int .i64 x256002_2, .bool x256003_2]) ?_ 1 _ rfl; (with_reducible repeat (first | refine blk_drewN ?_ _ | refine blk_drew ?_ | refine blk_alloc ?_ _)); refine blk_put (cs := #[.int .i64 x256000_2, .int .i64 x256001_2, .int .i64 x256002_2, .bool x256003_2]) ?_ 0 _ rfl; (with_reducible repeat (first | refine blk_drewN ?_ _ | refine blk_drew ?_ | refine blk_alloc ?_ _)); refine blk_far ?_ NB255_262.out _; (with_reducible repeat (first | refine blk_drewN ?_ _ | refine blk_drew ?_ | refine blk_alloc ?_ _)); refine blk_far ?_ NB255_262.out _; (with_reducible repeat (first | refine blk_drewN ?_ _ | refine blk_drew ?_ | refine blk_alloc ?_ _)); refine blk_far ?_ NB255_262.out _; (with_reducible repeat (first | refine blk_drewN ?_ _ | refine blk_drew ?_ | refine blk_alloc ?_ _)); refine blk_far ?_ NB255_262.out _; (with_reducible repeat (first | refine blk_drewN ?_ _ | refine blk_drew ?_ | refine blk_alloc ?_ _)); exact BK255.out⟩, ⟨by (with_reducible repeat (first | refine blk_drewN ?_ _ | refine blk_drew ?_ | refine blk_alloc ?_ _)); refine blk_far ?_ NB262_255.out _; (with_reducible repeat (first | refine blk_drewN ?_ _ | refine blk_drew ?_ | refine blk_alloc ?_ _)); refine blk_far ?_ NB262_255.out _; (with_reducible repeat (first | refine blk_drewN ?_ _ | refine blk_drew ?_ | refine blk_alloc ?_ _)); refine blk_far ?_ NB262_255.out _; (with_reducible repeat (first | refine blk_drewN ?_ _ | refine blk_drew ?_ | refine blk_alloc ?_ _)); refine blk_far ?_ NB262_255.out _; (with_reducible repeat (first | refine blk_drewN ?_ _ | refine blk_drew ?_ | refine blk_alloc ?_ _)); refine blk_put (cs := #[.int .i64 t257, .int .i64 t258, .int .i64 t259, .bool false]) ?_ 3 _ rfl; (with_reducible repeat (first | refine blk_drewN ?_ _ | refine blk_drew ?_ | refine blk_alloc ?_ _)); refine blk_put (cs := #[.int .i64 t257, .int .i64 t258, .int .i64 0, .bool false]) ?_ 2 _ rfl; (with_reducible repeat (first | refine blk_drewN ?_ _ | refine blk_drew ?_ | refine blk_alloc ?_ _)); refine blk_put (cs := #[.int .i64 t257, .int .i64 0, .int .i64 0, .bool false]) ?_ 1 _ rfl; (with_reducible repeat (first | refine blk_drewN ?_ _ | refine blk_drew ?_ | refine blk_alloc ?_ _)); refine blk_put (cs := #[.int .i64 0, .int .i64 0, .int .i64 0, .bool false]) ?_ 0 _ rfl; (with_reducible repeat (first | refine blk_drewN ?_ _ | refine blk_drew ?_ | refine blk_alloc ?_ _)); exact BK262.out⟩, ⟨by repeat (first | (with_reducible first | exact HB.out | apply below_alloc | apply pw_below_drewN | apply below_drew1 | refine below_set ?_ GE249.out | refine below_set ?_ GE255.out | refine below_set ?_ GE262.out) | exact HB.out)⟩⟩
                      · rw [if_neg c36] at H
                        have c36b0 : (((rd_T27 l1 x9_2).f0) == 3) = false := beq_eq_false_iff_ne.mpr c36
                        have c36b1 : (((rd_T27 l1 x9_2).f0) != 3) = true := bne_iff_ne.mpr c36
                        by_cases c38 : ((rd_T27 l1 x9_2).f0) = 4
                        · rw [if_pos c38] at H
                          have c38b0 : (((rd_T27 l1 x9_2).f0) == 4) = true := beq_iff_eq.mpr c38
                          have c38b1 : (((rd_T27 l1 x9_2).f0) != 4) = false := bne_eq_false_iff_eq.mpr c38
                          clear c38
                          by_cases c39 : x8_2 = 2
                          · rw [if_pos c39] at H
                            have c39b0 : (x8_2 == 2) = true := beq_iff_eq.mpr c39
                            have c39b1 : (x8_2 != 2) = false := bne_eq_false_iff_eq.mpr c39
                            clear c39
                            by_cases c40 : ((rd_T27 l1 x9_2).f1) = 1
                            · rw [if_pos c40] at H
                              have c40b0 : (((rd_T27 l1 x9_2).f1) == 1) = true := beq_iff_eq.mpr c40
                              have c40b1 : (((rd_T27 l1 x9_2).f1) != 1) = false := bne_eq_false_iff_eq.mpr c40
                              clear c40
                              have H' := Aside0.mk H
                              clear H
                              have p264 : 0 ≤ (x9_2 : Int) := of_decide_eq_true (by first | (with_reducible assumption) | assumption)
                              have q264 : x9_2 < (l1.length : Int) := of_decide_eq_true (by first | (with_reducible assumption) | assumption)
                              obtain ⟨ad264, e264, hx264_0, hx264_1, hx264_2⟩ := at_T27 HR1.out x9_2 p264 q264
                              obtain rfl : ad256 = ad264 := (by injection e264)
                              have hn264_0 : ad256.block ≠ gb262 := Nat.ne_of_lt (Nat.lt_of_lt_of_le (by have := World.block_lt_of_cell? _ _ hx264_0; first | rwa [add_block] at this | exact this) GW262.out)
                              have hn264_1 : ad256.block ≠ gb262 := Nat.ne_of_lt (Nat.lt_of_lt_of_le (by have := World.block_lt_of_cell? _ _ hx264_0; first | rwa [add_block] at this | exact this) GW262.out)
                              have hn264_2 : ad256.block ≠ gb262 := Nat.ne_of_lt (Nat.lt_of_lt_of_le (by have := World.block_lt_of_cell? _ _ hx264_0; first | rwa [add_block] at this | exact this) GW262.out)
                              have hn264_3 : ad256.block ≠ gb262 := Nat.ne_of_lt (Nat.lt_of_lt_of_le (by have := World.block_lt_of_cell? _ _ hx264_0; first | rwa [add_block] at this | exact this) GW262.out)
                              have hn264_4 : ad256.block ≠ gb255 := Nat.ne_of_lt (Nat.lt_of_lt_of_le (by have := World.block_lt_of_cell? _ _ hx264_0; first | rwa [add_block] at this | exact this) GW255.out)
                              have hn264_5 : ad256.block ≠ gb255 := Nat.ne_of_lt (Nat.lt_of_lt_of_le (by have := World.block_lt_of_cell? _ _ hx264_0; first | rwa [add_block] at this | exact this) GW255.out)
                              have hn264_6 : ad256.block ≠ gb255 := Nat.ne_of_lt (Nat.lt_of_lt_of_le (by have := World.block_lt_of_cell? _ _ hx264_0; first | rwa [add_block] at this | exact this) GW255.out)
                              have hn264_7 : ad256.block ≠ gb255 := Nat.ne_of_lt (Nat.lt_of_lt_of_le (by have := World.block_lt_of_cell? _ _ hx264_0; first | rwa [add_block] at this | exact this) GW255.out)
                              replace hx264_0 := (HB.out.cell (World.block_lt_of_cell? w _ hx264_0)).trans hx264_0
                              replace hx264_1 := (HB.out.cell (World.block_lt_of_cell? w _ hx264_1)).trans hx264_1
                              replace hx264_2 := (HB.out.cell (World.block_lt_of_cell? w _ hx264_2)).trans hx264_2
                              replace hx264_0 := (cell_far (p := ⟨gb262, 0, none⟩) (by first | (rw [add_block]; exact hn264_0) | (show (Addr.add _ _).block ≠ _; rw [add_block]; exact hn264_0) | exact hn264_0) (.int .i64 t257)).trans hx264_0
                              replace hx264_1 := (cell_far (p := ⟨gb262, 0, none⟩) (by first | (rw [add_block]; exact hn264_0) | (show (Addr.add _ _).block ≠ _; rw [add_block]; exact hn264_0) | exact hn264_0) (.int .i64 t257)).trans hx264_1
                              replace hx264_2 := (cell_far (p := ⟨gb262, 0, none⟩) (by first | (rw [add_block]; exact hn264_0) | (show (Addr.add _ _).block ≠ _; rw [add_block]; exact hn264_0) | exact hn264_0) (.int .i64 t257)).trans hx264_2
                              replace hx264_0 := (cell_far (p := ⟨gb262, 1, none⟩) (by first | (rw [add_block]; exact hn264_1) | (show (Addr.add _ _).block ≠ _; rw [add_block]; exact hn264_1) | exact hn264_1) (.int .i64 t258)).trans hx264_0
                              replace hx264_1 := (cell_far (p := ⟨gb262, 1, none⟩) (by first | (rw [add_block]; exact hn264_1) | (show (Addr.add _ _).block ≠ _; rw [add_block]; exact hn264_1) | exact hn264_1) (.int .i64 t258)).trans hx264_1
                              replace hx264_2 := (cell_far (p := ⟨gb262, 1, none⟩) (by first | (rw [add_block]; exact hn264_1) | (show (Addr.add _ _).block ≠ _; rw [add_block]; exact hn264_1) | exact hn264_1) (.int .i64 t258)).trans hx264_2
                              replace hx264_0 := (cell_far (p := ⟨gb262, 2, none⟩) (by first | (rw [add_block]; exact hn264_2) | (show (Addr.add _ _).block ≠ _; rw [add_block]; exact hn264_2) | exact hn264_2) (.int .i64 t259)).trans hx264_0
                              replace hx264_1 := (cell_far (p := ⟨gb262, 2, none⟩) (by first | (rw [add_block]; exact hn264_2) | (show (Addr.add _ _).block ≠ _; rw [add_block]; exact hn264_2) | exact hn264_2) (.int .i64 t259)).trans hx264_1
                              replace hx264_2 := (cell_far (p := ⟨gb262, 2, none⟩) (by first | (rw [add_block]; exact hn264_2) | (show (Addr.add _ _).block ≠ _; rw [add_block]; exact hn264_2) | exact hn264_2) (.int .i64 t259)).trans hx264_2
                              replace hx264_0 := (cell_far (p := ⟨gb262, 3, none⟩) (by first | (rw [add_block]; exact hn264_3) | (show (Addr.add _ _).block ≠ _; rw [add_block]; exact hn264_3) | exact hn264_3) (.bool t260)).trans hx264_0
                              replace hx264_1 := (cell_far (p := ⟨gb262, 3, none⟩) (by first | (rw [add_block]; exact hn264_3) | (show (Addr.add _ _).block ≠ _; rw [add_block]; exact hn264_3) | exact hn264_3) (.bool t260)).trans hx264_1
                              replace hx264_2 := (cell_far (p := ⟨gb262, 3, none⟩) (by first | (rw [add_block]; exact hn264_3) | (show (Addr.add _ _).block ≠ _; rw [add_block]; exact hn264_3) | exact hn264_3) (.bool t260)).trans hx264_2
                              replace hx264_0 := (cell_far (p := ⟨gb255, 0, none⟩) (by first | (rw [add_block]; exact hn264_4) | (show (Addr.add _ _).block ≠ _; rw [add_block]; exact hn264_4) | exact hn264_4) (.int .i64 t257)).trans hx264_0
                              replace hx264_1 := (cell_far (p := ⟨gb255, 0, none⟩) (by first | (rw [add_block]; exact hn264_4) | (show (Addr.add _ _).block ≠ _; rw [add_block]; exact hn264_4) | exact hn264_4) (.int .i64 t257)).trans hx264_1
                              replace hx264_2 := (cell_far (p := ⟨gb255, 0, none⟩) (by first | (rw [add_block]; exact hn264_4) | (show (Addr.add _ _).block ≠ _; rw [add_block]; exact hn264_4) | exact hn264_4) (.int .i64 t257)).trans hx264_2
                              replace hx264_0 := (cell_far (p := ⟨gb255, 1, none⟩) (by first | (rw [add_block]; exact hn264_5) | (show (Addr.add _ _).block ≠ _; rw [add_block]; exact hn264_5) | exact hn264_5) (.int .i64 t258)).trans hx264_0
                              replace hx264_1 := (cell_far (p := ⟨gb255, 1, none⟩) (by first | (rw [add_block]; exact hn264_5) | (show (Addr.add _ _).block ≠ _; rw [add_block]; exact hn264_5) | exact hn264_5) (.int .i64 t258)).trans hx264_1
                              replace hx264_2 := (cell_far (p := ⟨gb255, 1, none⟩) (by first | (rw [add_block]; exact hn264_5) | (show (Addr.add _ _).block ≠ _; rw [add_block]; exact hn264_5) | exact hn264_5) (.int .i64 t258)).trans hx264_2
                              replace hx264_0 := (cell_far (p := ⟨gb255, 2, none⟩) (by first | (rw [add_block]; exact hn264_6) | (show (Addr.add _ _).block ≠ _; rw [add_block]; exact hn264_6) | exact hn264_6) (.int .i64 t259)).trans hx264_0
                              replace hx264_1 := (cell_far (p := ⟨gb255, 2, none⟩) (by first | (rw [add_block]; exact hn264_6) | (show (Addr.add _ _).block ≠ _; rw [add_block]; exact hn264_6) | exact hn264_6) (.int .i64 t259)).trans hx264_1
                              replace hx264_2 := (cell_far (p := ⟨gb255, 2, none⟩) (by first | (rw [add_block]; exact hn264_6) | (show (Addr.add _ _).block ≠ _; rw [add_block]; exact hn264_6) | exact hn264_6) (.int .i64 t259)).trans hx264_2
                              replace hx264_0 := (cell_far (p := ⟨gb255, 3, none⟩) (by first | (rw [add_block]; exact hn264_7) | (show (Addr.add _ _).block ≠ _; rw [add_block]; exact hn264_7) | exact hn264_7) (.bool t260)).trans hx264_0
                              replace hx264_1 := (cell_far (p := ⟨gb255, 3, none⟩) (by first | (rw [add_block]; exact hn264_7) | (show (Addr.add _ _).block ≠ _; rw [add_block]; exact hn264_7) | exact hn264_7) (.bool t260)).trans hx264_1
                              replace hx264_2 := (cell_far (p := ⟨gb255, 3, none⟩) (by first | (rw [add_block]; exact hn264_7) | (show (Addr.add _ _).block ≠ _; rw [add_block]; exact hn264_7) | exact hn264_7) (.bool t260)).trans hx264_2
                              clear hn264_0
                              clear hn264_1
                              clear hn264_2
                              clear hn264_3
                              clear hn264_4
                              clear hn264_5
                              clear hn264_6
                              clear hn264_7
                              replace p264 := eq_true p264
                              replace q264 := eq_true q264
                              go_wp2
                              go_meet
                              case rel => exact ⟨_, (3), (by first | rfl | (simp; done) | (simp [*]; done)), H', ⟨by have := HJ4.out; have := HK2.out; first | omega | exact Nat.le_refl _⟩, ⟨by (with_reducible repeat (first | refine blk_drewN ?_ _ | refine blk_drew ?_ | refine blk_alloc ?_ _)); refine blk_far ?_ NB249_255.out _; (with_reducible repeat (first | refine blk_drewN ?_ _ | refine blk_drew ?_ | refine blk_alloc ?_ _)); refine blk_far ?_ NB249_255.out _; (with_reducible repeat (first | refine blk_drewN ?_ _ | refine blk_drew ?_ | refine blk_alloc ?_ _)); refine blk_far ?_ NB249_255.out _; (with_reducible repeat (first | refine blk_drewN ?_ _ | refine blk_drew ?_ | refine blk_alloc ?_ _)); refine blk_far ?_ NB249_255.out _; (with_reducible repeat (first | refine blk_drewN ?_ _ | refine blk_drew ?_ | refine blk_alloc ?_ _)); refine blk_far ?_ NB249_262.out _; (with_reducible repeat (first | refine blk_drewN ?_ _ | refine blk_drew ?_ | refine blk_alloc ?_ _)); refine blk_far ?_ NB249_262.out _; (with_reducible repeat (first | refine blk_drewN ?_ _ | refine blk_drew ?_ | refine blk_alloc ?_ _)); refine blk_far ?_ NB249_262.out _; (with_reducible repeat (first | refine blk_drewN ?_ _ | refine blk_drew ?_ | refine blk_alloc ?_ _)); refine blk_far ?_ NB249_262.out _; (with_reducible repeat (first | refine blk_drewN ?_ _ | refine blk_drew ?_ | refine blk_alloc ?_ _)); exact BK249.out⟩, ⟨by (with_reducible repeat (first | refine blk_drewN ?_ _ | refine blk_drew ?_ | refine blk_alloc ?_ _)); refine blk_put (cs := #[.int .i64 t257, .int .i64 t258, .int .i64 t259, .bool x256003_2]) ?_ 3 _ rfl; (with_reducible repeat (first | refine blk_drewN ?_ _ | refine blk_drew ?_ | refine blk_alloc ?_ _)); refine blk_put (cs := #[.int .i64 t257, .int .i64 t258, .int .i64 x256002_2, .bool x256003_2]) ?_ 2 _ rfl; (with_reducible repeat (first | refine blk_drewN ?_ _ | refine blk_drew ?_ | refine blk_alloc ?_ _)); refine blk_put (cs := #[.int .i64 t257, .int .i64 x256001_2, .int .i64 x256002_2, .bool x256003_2]) ?_ 1 _ rfl; (with_reducible repeat (first | refine blk_drewN ?_ _ | refine blk_drew ?_ | refine blk_alloc ?_ _)); refine blk_put (cs := #[.int .i64 x256000_2, .int .i64 x256001_2, .int .i64 x256002_2, .bool x256003_2]) ?_ 0 _ rfl; (with_reducible repeat (first | refine blk_drewN ?_ _ | refine blk_drew ?_ | refine blk_alloc ?_ _)); refine blk_far ?_ NB255_262.out _; (with_reducible repeat (first | refine blk_drewN ?_ _ | refine blk_drew ?_ | refine blk_alloc ?_ _)); refine blk_far ?_ NB255_262.out _; (with_reducible repeat (first | refine blk_drewN ?_ _ | refine blk_drew ?_ | refine blk_alloc ?_ _)); refine blk_far ?_ NB255_262.out _; (with_reducible repeat (first | refine blk_drewN ?_ _ | refine blk_drew ?_ | refine blk_alloc ?_ _)); refine blk_far ?_ NB255_262.out _; (with_reducible repeat (first | refine blk_drewN ?_ _ | refine blk_drew ?_ | refine blk_alloc ?_ _)); exact BK255.out⟩, ⟨by (with_reducible repeat (first | refine blk_drewN ?_ _ | refine blk_drew ?_ | refine blk_alloc ?_ _)); refine blk_far ?_ NB262_255.out _; (with_reducible repeat (first | refine blk_drewN ?_ _ | refine blk_drew ?_ | refine blk_alloc ?_ _)); refine blk_far ?_ NB262_255.out _; (with_reducible repeat (first | refine blk_drewN ?_ _ | refine blk_drew ?_ | refine blk_alloc ?_ _)); refine blk_far ?_ NB262_255.out _; (with_reducible repeat (first | refine blk_drewN ?_ _ | refine blk_drew ?_ | refine blk_alloc ?_ _)); refine blk_far ?_ NB262_255.out _; (with_reducible repeat (first | refine blk_drewN ?_ _ | refine blk_drew ?_ | refine blk_alloc ?_ _)); refine blk_put (cs := #[.int .i64 t257, .int .i64 t258, .int .i64 t259, .bool false]) ?_ 3 _ rfl; (with_reducible repeat (first | refine blk_drewN ?_ _ | refine blk_drew ?_ | refine blk_alloc ?_ _)); refine blk_put (cs := #[.int .i64 t257, .int .i64 t258, .int .i64 0, .bool false]) ?_ 2 _ rfl; (with_reducible repeat (first | refine blk_drewN ?_ _ | refine blk_drew ?_ | refine blk_alloc ?_ _)); refine blk_put (cs := #[.int .i64 t257, .int .i64 0, .int .i64 0, .bool false]) ?_ 1 _ rfl; (with_reducible repeat (first | refine blk_drewN ?_ _ | refine blk_drew ?_ | refine blk_alloc ?_ _)); refine blk_put (cs := #[.int .i64 0, .int .i64 0, .int .i64 0, .bool false]) ?_ 0 _ rfl; (with_reducible repeat (first | refine blk_drewN ?_ _ | refine blk_drew ?_ | refine blk_alloc ?_ _)); exact BK262.out⟩, ⟨by repeat (first | (with_reducible first | exact HB.out | apply below_alloc | apply pw_below_drewN | apply below_drew1 | refine below_set ?_ GE249.out | refine below_set ?_ GE255.out | refine below_set ?_ GE262.out) | exact HB.out)⟩⟩
                            · rw [if_neg c40] at H
                              have c40b0 : (((rd_T27 l1 x9_2).f1) == 1) = false := beq_eq_false_iff_ne.mpr c40
                              have c40b1 : (((rd_T27 l1 x9_2).f1) != 1) = true := bne_iff_ne.mpr c40
                              have H' := Aside0.mk H
                              clear H
                              have p264 : 0 ≤ (x9_2 : Int) := of_decide_eq_true (by first | (with_reducible assumption) | assumption)
                              have q264 : x9_2 < (l1.length : Int) := of_decide_eq_true (by first | (with_reducible assumption) | assumption)
                              obtain ⟨ad264, e264, hx264_0, hx264_1, hx264_2⟩ := at_T27 HR1.out x9_2 p264 q264
                              obtain rfl : ad256 = ad264 := (by injection e264)
                              have hn264_0 : ad256.block ≠ gb262 := Nat.ne_of_lt (Nat.lt_of_lt_of_le (by have := World.block_lt_of_cell? _ _ hx264_0; first | rwa [add_block] at this | exact this) GW262.out)
                              have hn264_1 : ad256.block ≠ gb262 := Nat.ne_of_lt (Nat.lt_of_lt_of_le (by have := World.block_lt_of_cell? _ _ hx264_0; first | rwa [add_block] at this | exact this) GW262.out)
                              have hn264_2 : ad256.block ≠ gb262 := Nat.ne_of_lt (Nat.lt_of_lt_of_le (by have := World.block_lt_of_cell? _ _ hx264_0; first | rwa [add_block] at this | exact this) GW262.out)
                              have hn264_3 : ad256.block ≠ gb262 := Nat.ne_of_lt (Nat.lt_of_lt_of_le (by have := World.block_lt_of_cell? _ _ hx264_0; first | rwa [add_block] at this | exact this) GW262.out)
                              have hn264_4 : ad256.block ≠ gb255 := Nat.ne_of_lt (Nat.lt_of_lt_of_le (by have := World.block_lt_of_cell? _ _ hx264_0; first | rwa [add_block] at this | exact this) GW255.out)
                              have hn264_5 : ad256.block ≠ gb255 := Nat.ne_of_lt (Nat.lt_of_lt_of_le (by have := World.block_lt_of_cell? _ _ hx264_0; first | rwa [add_block] at this | exact this) GW255.out)
                              have hn264_6 : ad256.block ≠ gb255 := Nat.ne_of_lt (Nat.lt_of_lt_of_le (by have := World.block_lt_of_cell? _ _ hx264_0; first | rwa [add_block] at this | exact this) GW255.out)
                              have hn264_7 : ad256.block ≠ gb255 := Nat.ne_of_lt (Nat.lt_of_lt_of_le (by have := World.block_lt_of_cell? _ _ hx264_0; first | rwa [add_block] at this | exact this) GW255.out)
                              replace hx264_0 := (HB.out.cell (World.block_lt_of_cell? w _ hx264_0)).trans hx264_0
                              replace hx264_1 := (HB.out.cell (World.block_lt_of_cell? w _ hx264_1)).trans hx264_1
                              replace hx264_2 := (HB.out.cell (World.block_lt_of_cell? w _ hx264_2)).trans hx264_2
                              replace hx264_0 := (cell_far (p := ⟨gb262, 0, none⟩) (by first | (rw [add_block]; exact hn264_0) | (show (Addr.add _ _).block ≠ _; rw [add_block]; exact hn264_0) | exact hn264_0) (.int .i64 t257)).trans hx264_0
                              replace hx264_1 := (cell_far (p := ⟨gb262, 0, none⟩) (by first | (rw [add_block]; exact hn264_0) | (show (Addr.add _ _).block ≠ _; rw [add_block]; exact hn264_0) | exact hn264_0) (.int .i64 t257)).trans hx264_1
                              replace hx264_2 := (cell_far (p := ⟨gb262, 0, none⟩) (by first | (rw [add_block]; exact hn264_0) | (show (Addr.add _ _).block ≠ _; rw [add_block]; exact hn264_0) | exact hn264_0) (.int .i64 t257)).trans hx264_2
                              replace hx264_0 := (cell_far (p := ⟨gb262, 1, none⟩) (by first | (rw [add_block]; exact hn264_1) | (show (Addr.add _ _).block ≠ _; rw [add_block]; exact hn264_1) | exact hn264_1) (.int .i64 t258)).trans hx264_0
                              replace hx264_1 := (cell_far (p := ⟨gb262, 1, none⟩) (by first | (rw [add_block]; exact hn264_1) | (show (Addr.add _ _).block ≠ _; rw [add_block]; exact hn264_1) | exact hn264_1) (.int .i64 t258)).trans hx264_1
                              replace hx264_2 := (cell_far (p := ⟨gb262, 1, none⟩) (by first | (rw [add_block]; exact hn264_1) | (show (Addr.add _ _).block ≠ _; rw [add_block]; exact hn264_1) | exact hn264_1) (.int .i64 t258)).trans hx264_2
                              replace hx264_0 := (cell_far (p := ⟨gb262, 2, none⟩) (by first | (rw [add_block]; exact hn264_2) | (show (Addr.add _ _).block ≠ _; rw [add_block]; exact hn264_2) | exact hn264_2) (.int .i64 t259)).trans hx264_0
                              replace hx264_1 := (cell_far (p := ⟨gb262, 2, none⟩) (by first | (rw [add_block]; exact hn264_2) | (show (Addr.add _ _).block ≠ _; rw [add_block]; exact hn264_2) | exact hn264_2) (.int .i64 t259)).trans hx264_1
                              replace hx264_2 := (cell_far (p := ⟨gb262, 2, none⟩) (by first | (rw [add_block]; exact hn264_2) | (show (Addr.add _ _).block ≠ _; rw [add_block]; exact hn264_2) | exact hn264_2) (.int .i64 t259)).trans hx264_2
                              replace hx264_0 := (cell_far (p := ⟨gb262, 3, none⟩) (by first | (rw [add_block]; exact hn264_3) | (show (Addr.add _ _).block ≠ _; rw [add_block]; exact hn264_3) | exact hn264_3) (.bool t260)).trans hx264_0
                              replace hx264_1 := (cell_far (p := ⟨gb262, 3, none⟩) (by first | (rw [add_block]; exact hn264_3) | (show (Addr.add _ _).block ≠ _; rw [add_block]; exact hn264_3) | exact hn264_3) (.bool t260)).trans hx264_1
                              replace hx264_2 := (cell_far (p := ⟨gb262, 3, none⟩) (by first | (rw [add_block]; exact hn264_3) | (show (Addr.add _ _).block ≠ _; rw [add_block]; exact hn264_3) | exact hn264_3) (.bool t260)).trans hx264_2
                              replace hx264_0 := (cell_far (p := ⟨gb255, 0, none⟩) (by first | (rw [add_block]; exact hn264_4) | (show (Addr.add _ _).block ≠ _; rw [add_block]; exact hn264_4) | exact hn264_4) (.int .i64 t257)).trans hx264_0
                              replace hx264_1 := (cell_far (p := ⟨gb255, 0, none⟩) (by first | (rw [add_block]; exact hn264_4) | (show (Addr.add _ _).block ≠ _; rw [add_block]; exact hn264_4) | exact hn264_4) (.int .i64 t257)).trans hx264_1
                              replace hx264_2 := (cell_far (p := ⟨gb255, 0, none⟩) (by first | (rw [add_block]; exact hn264_4) | (show (Addr.add _ _).block ≠ _; rw [add_block]; exact hn264_4) | exact hn264_4) (.int .i64 t257)).trans hx264_2
                              replace hx264_0 := (cell_far (p := ⟨gb255, 1, none⟩) (by first | (rw [add_block]; exact hn264_5) | (show (Addr.add _ _).block ≠ _; rw [add_block]; exact hn264_5) | exact hn264_5) (.int .i64 t258)).trans hx264_0
                              replace hx264_1 := (cell_far (p := ⟨gb255, 1, none⟩) (by first | (rw [add_block]; exact hn264_5) | (show (Addr.add _ _).block ≠ _; rw [add_block]; exact hn264_5) | exact hn264_5) (.int .i64 t258)).trans hx264_1
                              replace hx264_2 := (cell_far (p := ⟨gb255, 1, none⟩) (by first | (rw [add_block]; exact hn264_5) | (show (Addr.add _ _).block ≠ _; rw [add_block]; exact hn264_5) | exact hn264_5) (.int .i64 t258)).trans hx264_2
                              replace hx264_0 := (cell_far (p := ⟨gb255, 2, none⟩) (by first | (rw [add_block]; exact hn264_6) | (show (Addr.add _ _).block ≠ _; rw [add_block]; exact hn264_6) | exact hn264_6) (.int .i64 t259)).trans hx264_0
                              replace hx264_1 := (cell_far (p := ⟨gb255, 2, none⟩) (by first | (rw [add_block]; exact hn264_6) | (show (Addr.add _ _).block ≠ _; rw [add_block]; exact hn264_6) | exact hn264_6) (.int .i64 t259)).trans hx264_1
                              replace hx264_2 := (cell_far (p := ⟨gb255, 2, none⟩) (by first | (rw [add_block]; exact hn264_6) | (show (Addr.add _ _).block ≠ _; rw [add_block]; exact hn264_6) | exact hn264_6) (.int .i64 t259)).trans hx264_2
                              replace hx264_0 := (cell_far (p := ⟨gb255, 3, none⟩) (by first | (rw [add_block]; exact hn264_7) | (show (Addr.add _ _).block ≠ _; rw [add_block]; exact hn264_7) | exact hn264_7) (.bool t260)).trans hx264_0
                              replace hx264_1 := (cell_far (p := ⟨gb255, 3, none⟩) (by first | (rw [add_block]; exact hn264_7) | (show (Addr.add _ _).block ≠ _; rw [add_block]; exact hn264_7) | exact hn264_7) (.bool t260)).trans hx264_1
                              replace hx264_2 := (cell_far (p := ⟨gb255, 3, none⟩) (by first | (rw [add_block]; exact hn264_7) | (show (Addr.add _ _).block ≠ _; rw [add_block]; exact hn264_7) | exact hn264_7) (.bool t260)).trans hx264_2
                              clear hn264_0
                              clear hn264_1
                              clear hn264_2
                              clear hn264_3
                              clear hn264_4
                              clear hn264_5
                              clear hn264_6
                              clear hn264_7
                              replace p264 := eq_true p264
                              replace q264 := eq_true q264
                              go_wp2
                              go_meet
                              case rel => exact ⟨_, (0), (by first | rfl | (simp; done) | (simp [*]; done)), H', ⟨by have := HJ4.out; have := HK2.out; first | omega | exact Nat.le_refl _⟩, ⟨by (with_reducible repeat (first | refine blk_drewN ?_ _ | refine blk_drew ?_ | refine blk_alloc ?_ _)); refine blk_far ?_ NB249_255.out _; (with_reducible repeat (first | refine blk_drewN ?_ _ | refine blk_drew ?_ | refine blk_alloc ?_ _)); refine blk_far ?_ NB249_255.out _; (with_reducible repeat (first | refine blk_drewN ?_ _ | refine blk_drew ?_ | refine blk_alloc ?_ _)); refine blk_far ?_ NB249_255.out _; (with_reducible repeat (first | refine blk_drewN ?_ _ | refine blk_drew ?_ | refine blk_alloc ?_ _)); refine blk_far ?_ NB249_255.out _; (with_reducible repeat (first | refine blk_drewN ?_ _ | refine blk_drew ?_ | refine blk_alloc ?_ _)); refine blk_far ?_ NB249_262.out _; (with_reducible repeat (first | refine blk_drewN ?_ _ | refine blk_drew ?_ | refine blk_alloc ?_ _)); refine blk_far ?_ NB249_262.out _; (with_reducible repeat (first | refine blk_drewN ?_ _ | refine blk_drew ?_ | refine blk_alloc ?_ _)); refine blk_far ?_ NB249_262.out _; (with_reducible repeat (first | refine blk_drewN ?_ _ | refine blk_drew ?_ | refine blk_alloc ?_ _)); refine blk_far ?_ NB249_262.out _; (with_reducible repeat (first | refine blk_drewN ?_ _ | refine blk_drew ?_ | refine blk_alloc ?_ _)); exact BK249.out⟩, ⟨by (with_reducible repeat (first | refine blk_drewN ?_ _ | refine blk_drew ?_ | refine blk_alloc ?_ _)); refine blk_put (cs := #[.int .i64 t257, .int .i64 t258, .int .i64 t259, .bool x256003_2]) ?_ 3 _ rfl; (with_reducible repeat (first | refine blk_drewN ?_ _ | refine blk_drew ?_ | refine blk_alloc ?_ _)); refine blk_put (cs := #[.int .i64 t257, .int .i64 t258, .int .i64 x256002_2, .bool x256003_2]) ?_ 2 _ rfl; (with_reducible repeat (first | refine blk_drewN ?_ _ | refine blk_drew ?_ | refine blk_alloc ?_ _)); refine blk_put (cs := #[.int .i64 t257, .int .i64 x256001_2, .int .i64 x256002_2, .bool x256003_2]) ?_ 1 _ rfl; (with_reducible repeat (first | refine blk_drewN ?_ _ | refine blk_drew ?_ | refine blk_alloc ?_ _)); refine blk_put (cs := #[.int .i64 x256000_2, .int .i64 x256001_2, .int .i64 x256002_2, .bool x256003_2]) ?_ 0 _ rfl; (with_reducible repeat (first | refine blk_drewN ?_ _ | refine blk_drew ?_ | refine blk_alloc ?_ _)); refine blk_far ?_ NB255_262.out _; (with_reducible repeat (first | refine blk_drewN ?_ _ | refine blk_drew ?_ | refine blk_alloc ?_ _)); refine blk_far ?_ NB255_262.out _; (with_reducible repeat (first | refine blk_drewN ?_ _ | refine blk_drew ?_ | refine blk_alloc ?_ _)); refine blk_far ?_ NB255_262.out _; (with_reducible repeat (first | refine blk_drewN ?_ _ | refine blk_drew ?_ | refine blk_alloc ?_ _)); refine blk_far ?_ NB255_262.out _; (with_reducible repeat (first | refine blk_drewN ?_ _ | refine blk_drew ?_ | refine blk_alloc ?_ _)); exact BK255.out⟩, ⟨by (with_reducible repeat (first | refine blk_drewN ?_ _ | refine blk_drew ?_ | refine blk_alloc ?_ _)); refine blk_far ?_ NB262_255.out _; (with_reducible repeat (first | refine blk_drewN ?_ _ | refine blk_drew ?_ | refine blk_alloc ?_ _)); refine blk_far ?_ NB262_255.out _; (with_reducible repeat (first | refine blk_drewN ?_ _ | refine blk_drew ?_ | refine blk_alloc ?_ _)); refine blk_far ?_ NB262_255.out _; (with_reducible repeat (first | refine blk_drewN ?_ _ | refine blk_drew ?_ | refine blk_alloc ?_ _)); refine blk_far ?_ NB262_255.out _; (with_reducible repeat (first | refine blk_drewN ?_ _ | refine blk_drew ?_ | refine blk_alloc ?_ _)); refine blk_put (cs := #[.int .i64 t257, .int .i64 t258, .int .i64 t259, .bool false]) ?_ 3 _ rfl; (with_reducible repeat (first | refine blk_drewN ?_ _ | refine blk_drew ?_ | refine blk_alloc ?_ _)); refine blk_put (cs := #[.int .i64 t257, .int .i64 t258, .int .i64 0, .bool false]) ?_ 2 _ rfl; (with_reducible repeat (first | refine blk_drewN ?_ _ | refine blk_drew ?_ | refine blk_alloc ?_ _)); refine blk_put (cs := #[.int .i64 t257, .int .i64 0, .int .i64 0, .bool false]) ?_ 1 _ rfl; (with_reducible repeat (first | refine blk_drewN ?_ _ | refine blk_drew ?_ | refine blk_alloc ?_ _)); refine blk_put (cs := #[.int .i64 0, .int .i64 0, .int .i64 0, .bool false]) ?_ 0 _ rfl; (with_reducible repeat (first | refine blk_drewN ?_ _ | refine blk_drew ?_ | refine blk_alloc ?_ _)); exact BK262.out⟩, ⟨by repeat (first | (with_reducible first | exact HB.out | apply below_alloc | apply pw_below_drewN | apply below_drew1 | refine below_set ?_ GE249.out | refine below_set ?_ GE255.out | refine below_set ?_ GE262.out) | exact HB.out)⟩⟩
                          · rw [if_neg c39] at H
                            have c39b0 : (x8_2 == 2) = false := beq_eq_false_iff_ne.mpr c39
                            have c39b1 : (x8_2 != 2) = true := bne_iff_ne.mpr c39
                            have H' := Aside0.mk H
                            clear H
                            go_wp2
                            go_meet
                            case rel => exact ⟨_, (0), (by first | rfl | (simp; done) | (simp [*]; done)), H', ⟨by have := HJ4.out; have := HK2.out; first | omega | exact Nat.le_refl _⟩, ⟨by (with_reducible repeat (first | refine blk_drewN ?_ _ | refine blk_drew ?_ | refine blk_alloc ?_ _)); refine blk_far ?_ NB249_255.out _; (with_reducible repeat (first | refine blk_drewN ?_ _ | refine blk_drew ?_ | refine blk_alloc ?_ _)); refine blk_far ?_ NB249_255.out _; (with_reducible repeat (first | refine blk_drewN ?_ _ | refine blk_drew ?_ | refine blk_alloc ?_ _)); refine blk_far ?_ NB249_255.out _; (with_reducible repeat (first | refine blk_drewN ?_ _ | refine blk_drew ?_ | refine blk_alloc ?_ _)); refine blk_far ?_ NB249_255.out _; (with_reducible repeat (first | refine blk_drewN ?_ _ | refine blk_drew ?_ | refine blk_alloc ?_ _)); refine blk_far ?_ NB249_262.out _; (with_reducible repeat (first | refine blk_drewN ?_ _ | refine blk_drew ?_ | refine blk_alloc ?_ _)); refine blk_far ?_ NB249_262.out _; (with_reducible repeat (first | refine blk_drewN ?_ _ | refine blk_drew ?_ | refine blk_alloc ?_ _)); refine blk_far ?_ NB249_262.out _; (with_reducible repeat (first | refine blk_drewN ?_ _ | refine blk_drew ?_ | refine blk_alloc ?_ _)); refine blk_far ?_ NB249_262.out _; (with_reducible repeat (first | refine blk_drewN ?_ _ | refine blk_drew ?_ | refine blk_alloc ?_ _)); exact BK249.out⟩, ⟨by (with_reducible repeat (first | refine blk_drewN ?_ _ | refine blk_drew ?_ | refine blk_alloc ?_ _)); refine blk_put (cs := #[.int .i64 t257, .int .i64 t258, .int .i64 t259, .bool x256003_2]) ?_ 3 _ rfl; (with_reducible repeat (first | refine blk_drewN ?_ _ | refine blk_drew ?_ | refine blk_alloc ?_ _)); refine blk_put (cs := #[.int .i64 t257, .int .i64 t258, .int .i64 x256002_2, .bool x256003_2]) ?_ 2 _ rfl; (with_reducible repeat (first | refine blk_drewN ?_ _ | refine blk_drew ?_ | refine blk_alloc ?_ _)); refine blk_put (cs := #[.int .i64 t257, .int .i64 x256001_2, .int .i64 x256002_2, .bool x256003_2]) ?_ 1 _ rfl; (with_reducible repeat (first | refine blk_drewN ?_ _ | refine blk_drew ?_ | refine blk_alloc ?_ _)); refine blk_put (cs := #[.int .i64 x256000_2, .int .i64 x256001_2, .int .i64 x256002_2, .bool x256003_2]) ?_ 0 _ rfl; (with_reducible repeat (first | refine blk_drewN ?_ _ | refine blk_drew ?_ | refine blk_alloc ?_ _)); refine blk_far ?_ NB255_262.out _; (with_reducible repeat (first | refine blk_drewN ?_ _ | refine blk_drew ?_ | refine blk_alloc ?_ _)); refine blk_far ?_ NB255_262.out _; (with_reducible repeat (first | refine blk_drewN ?_ _ | refine blk_drew ?_ | refine blk_alloc ?_ _)); refine blk_far ?_ NB255_262.out _; (with_reducible repeat (first | refine blk_drewN ?_ _ | refine blk_drew ?_ | refine blk_alloc ?_ _)); refine blk_far ?_ NB255_262.out _; (with_reducible repeat (first | refine blk_drewN ?_ _ | refine blk_drew ?_ | refine blk_alloc ?_ _)); exact BK255.out⟩, ⟨by (with_reducible repeat (first | refine blk_drewN ?_ _ | refine blk_drew ?_ | refine blk_alloc ?_ _)); refine blk_far ?_ NB262_255.out _; (with_reducible repeat (first | refine blk_drewN ?_ _ | refine blk_drew ?_ | refine blk_alloc ?_ _)); refine blk_far ?_ NB262_255.out _; (with_reducible repeat (first | refine blk_drewN ?_ _ | refine blk_drew ?_ | refine blk_alloc ?_ _)); refine blk_far ?_ NB262_255.out _; (with_reducible repeat (first | refine blk_drewN ?_ _ | refine blk_drew ?_ | refine blk_alloc ?_ _)); refine blk_far ?_ NB262_255.out _; (with_reducible repeat (first | refine blk_drewN ?_ _ | refine blk_drew ?_ | refine blk_alloc ?_ _)); refine blk_put (cs := #[.int .i64 t257, .int .i64 t258, .int .i64 t259, .bool false]) ?_ 3 _ rfl; (with_reducible repeat (first | refine blk_drewN ?_ _ | refine blk_drew ?_ | refine blk_alloc ?_ _)); refine blk_put (cs := #[.int .i64 t257, .int .i64 t258, .int .i64 0, .bool false]) ?_ 2 _ rfl; (with_reducible repeat (first | refine blk_drewN ?_ _ | refine blk_drew ?_ | refine blk_alloc ?_ _)); refine blk_put (cs := #[.int .i64 t257, .int .i64 0, .int .i64 0, .bool false]) ?_ 1 _ rfl; (with_reducible repeat (first | refine blk_drewN ?_ _ | refine blk_drew ?_ | refine blk_alloc ?_ _)); refine blk_put (cs := #[.int .i64 0, .int .i64 0, .int .i64 0, .bool false]) ?_ 0 _ rfl; (with_reducible repeat (first | refine blk_drewN ?_ _ | refine blk_drew ?_ | refine blk_alloc ?_ _)); exact BK262.out⟩, ⟨by repeat (first | (with_reducible first | exact HB.out | apply below_alloc | apply pw_below_drewN | apply below_drew1 | refine below_set ?_ GE249.out | refine below_set ?_ GE255.out | refine below_set ?_ GE262.out) | exact HB.out)⟩⟩
                        · rw [if_neg c38] at H
                          have c38b0 : (((rd_T27 l1 x9_2).f0) == 4) = false := beq_eq_false_iff_ne.mpr c38
                          have c38b1 : (((rd_T27 l1 x9_2).f0) != 4) = true := bne_iff_ne.mpr c38
                          by_cases c41 : ((rd_T27 l1 x9_2).f0) = 5
                          · rw [if_pos c41] at H
                            have c41b0 : (((rd_T27 l1 x9_2).f0) == 5) = true := beq_iff_eq.mpr c41
                            have c41b1 : (((rd_T27 l1 x9_2).f0) != 5) = false := bne_eq_false_iff_eq.mpr c41
                            clear c41
                            by_cases c42 : x8_2 = 3
                            · rw [if_pos c42] at H
                              have c42b0 : (x8_2 == 3) = true := beq_iff_eq.mpr c42
                              have c42b1 : (x8_2 != 3) = false := bne_eq_false_iff_eq.mpr c42
                              clear c42
                              have H' := Aside0.mk H
                              clear H
                              go_wp2
                              go_meet
                              case rel => exact ⟨_, (4), (by first | rfl | (simp; done) | (simp [*]; done)), H', ⟨by have := HJ4.out; have := HK2.out; first | omega | exact Nat.le_refl _⟩, ⟨by (with_reducible repeat (first | refine blk_drewN ?_ _ | refine blk_drew ?_ | refine blk_alloc ?_ _)); refine blk_far ?_ NB249_255.out _; (with_reducible repeat (first | refine blk_drewN ?_ _ | refine blk_drew ?_ | refine blk_alloc ?_ _)); refine blk_far ?_ NB249_255.out _; (with_reducible repeat (first | refine blk_drewN ?_ _ | refine blk_drew ?_ | refine blk_alloc ?_ _)); refine blk_far ?_ NB249_255.out _; (with_reducible repeat (first | refine blk_drewN ?_ _ | refine blk_drew ?_ | refine blk_alloc ?_ _)); refine blk_far ?_ NB249_255.out _; (with_reducible repeat (first | refine blk_drewN ?_ _ | refine blk_drew ?_ | refine blk_alloc ?_ _)); refine blk_far ?_ NB249_262.out _; (with_reducible repeat (first | refine blk_drewN ?_ _ | refine blk_drew ?_ | refine blk_alloc ?_ _)); refine blk_far ?_ NB249_262.out _; (with_reducible repeat (first | refine blk_drewN ?_ _ | refine blk_drew ?_ | refine blk_alloc ?_ _)); refine blk_far ?_ NB249_262.out _; (with_reducible repeat (first | refine blk_drewN ?_ _ | refine blk_drew ?_ | refine blk_alloc ?_ _)); refine blk_far ?_ NB249_262.out _; (with_reducible repeat (first | refine blk_drewN ?_ _ | refine blk_drew ?_ | refine blk_alloc ?_ _)); exact BK249.out⟩, ⟨by (with_reducible repeat (first | refine blk_drewN ?_ _ | refine blk_drew ?_ | refine blk_alloc ?_ _)); refine blk_put (cs := #[.int .i64 t257, .int .i64 t258, .int .i64 t259, .bool x256003_2]) ?_ 3 _ rfl; (with_reducible repeat (first | refine blk_drewN ?_ _ | refine blk_drew ?_ | refine blk_alloc ?_ _)); refine blk_put (cs := #[.int .i64 t257, .int .i64 t258, .int .i64 x256002_2, .bool x256003_2]) ?_ 2 _ rfl; (with_reducible repeat (first | refine blk_drewN ?_ _ | refine blk_drew ?_ | refine blk_alloc ?_ _)); refine blk_put (cs := #[.int .i64 t257, .int .i64 x256001_2, .int .i64 x256002_2, .bool x256003_2]) ?_ 1 _ rfl; (with_reducible repeat (first | refine blk_drewN ?_ _ | refine blk_drew ?_ | refine blk_alloc ?_ _)); refine blk_put (cs := #[.int .i64 x256000_2, .int .i64 x256001_2, .int .i64 x256002_2, .bool x256003_2]) ?_ 0 _ rfl; (with_reducible repeat (first | refine blk_drewN ?_ _ | refine blk_drew ?_ | refine blk_alloc ?_ _)); refine blk_far ?_ NB255_262.out _; (with_reducible repeat (first | refine blk_drewN ?_ _ | refine blk_drew ?_ | refine blk_alloc ?_ _)); refine blk_far ?_ NB255_262.out _; (with_reducible repeat (first | refine blk_drewN ?_ _ | refine blk_drew ?_ | refine blk_alloc ?_ _)); refine blk_far ?_ NB255_262.out _; (with_reducible repeat (first | refine blk_drewN ?_ _ | refine blk_drew ?_ | refine blk_alloc ?_ _)); refine blk_far ?_ NB255_262.out _; (with_reducible repeat (first | refine blk_drewN ?_ _ | refine blk_drew ?_ | refine blk_alloc ?_ _)); exact BK255.out⟩, ⟨by (with_reducible repeat (first | refine blk_drewN ?_ _ | refine blk_drew ?_ | refine blk_alloc ?_ _)); refine blk_far ?_ NB262_255.out _; (with_reducible repeat (first | refine blk_drewN ?_ _ | refine blk_drew ?_ | refine blk_alloc ?_ _)); refine blk_far ?_ NB262_255.out _; (with_reducible repeat (first | refine blk_drewN ?_ _ | refine blk_drew ?_ | refine blk_alloc ?_ _)); refine blk_far ?_ NB262_255.out _; (with_reducible repeat (first | refine blk_drewN ?_ _ | refine blk_drew ?_ | refine blk_alloc ?_ _)); refine blk_far ?_ NB262_255.out _; (with_reducible repeat (first | refine blk_drewN ?_ _ | refine blk_drew ?_ | refine blk_alloc ?_ _)); refine blk_put (cs := #[.int .i64 t257, .int .i64 t258, .int .i64 t259, .bool false]) ?_ 3 _ rfl; (with_reducible repeat (first | refine blk_drewN ?_ _ | refine blk_drew ?_ | refine blk_alloc ?_ _)); refine blk_put (cs := #[.int .i64 t257, .int .i64 t258, .int .i64 0, .bool false]) ?_ 2 _ rfl; (with_reducible repeat (first | refine blk_drewN ?_ _ | refine blk_drew ?_ | refine blk_alloc ?_ _)); refine blk_put (cs := #[.int .i64 t257, .int .i64 0, .int .i64 0, .bool false]) ?_ 1 _ rfl; (with_reducible repeat (first | refine blk_drewN ?_ _ | refine blk_drew ?_ | refine blk_alloc ?_ _)); refine blk_put (cs := #[.int .i64 0, .int .i64 0, .int .i64 0, .bool false]) ?_ 0 _ rfl; (with_reducible repeat (first | refine blk_drewN ?_ _ | refine blk_drew ?_ | refine blk_alloc ?_ _)); exact BK262.out⟩, ⟨by repeat (first | (with_reducible first | exact HB.out | apply below_alloc | apply pw_below_drewN | apply below_drew1 | refine below_set ?_ GE249.out | refine below_set ?_ GE255.out | refine below_set ?_ GE262.out) | exact HB.out)⟩⟩
                            · rw [if_neg c42] at H
                              have c42b0 : (x8_2 == 3) = false := beq_eq_false_iff_ne.mpr c42
                              have c42b1 : (x8_2 != 3) = true := bne_iff_ne.mpr c42
                              have H' := Aside0.mk H
                              clear H
                              go_wp2
                              go_meet
                              case rel => exact ⟨_, (x8_2), (by first | rfl | (simp; done) | (simp [*]; done)), H', ⟨by have := HJ4.out; have := HK2.out; first | omega | exact Nat.le_refl _⟩, ⟨by (with_reducible repeat (first | refine blk_drewN ?_ _ | refine blk_drew ?_ | refine blk_alloc ?_ _)); refine blk_far ?_ NB249_255.out _; (with_reducible repeat (first | refine blk_drewN ?_ _ | refine blk_drew ?_ | refine blk_alloc ?_ _)); refine blk_far ?_ NB249_255.out _; (with_reducible repeat (first | refine blk_drewN ?_ _ | refine blk_drew ?_ | refine blk_alloc ?_ _)); refine blk_far ?_ NB249_255.out _; (with_reducible repeat (first | refine blk_drewN ?_ _ | refine blk_drew ?_ | refine blk_alloc ?_ _)); refine blk_far ?_ NB249_255.out _; (with_reducible repeat (first | refine blk_drewN ?_ _ | refine blk_drew ?_ | refine blk_alloc ?_ _)); refine blk_far ?_ NB249_262.out _; (with_reducible repeat (first | refine blk_drewN ?_ _ | refine blk_drew ?_ | refine blk_alloc ?_ _)); refine blk_far ?_ NB249_262.out _; (with_reducible repeat (first | refine blk_drewN ?_ _ | refine blk_drew ?_ | refine blk_alloc ?_ _)); refine blk_far ?_ NB249_262.out _; (with_reducible repeat (first | refine blk_drewN ?_ _ | refine blk_drew ?_ | refine blk_alloc ?_ _)); refine blk_far ?_ NB249_262.out _; (with_reducible repeat (first | refine blk_drewN ?_ _ | refine blk_drew ?_ | refine blk_alloc ?_ _)); exact BK249.out⟩, ⟨by (with_reducible repeat (first | refine blk_drewN ?_ _ | refine blk_drew ?_ | refine blk_alloc ?_ _)); refine blk_put (cs := #[.int .i64 t257, .int .i64 t258, .int .i64 t259, .bool x256003_2]) ?_ 3 _ rfl; (with_reducible repeat (first | refine blk_drewN ?_ _ | refine blk_drew ?_ | refine blk_alloc ?_ _)); refine blk_put (cs := #[.int .i64 t257, .int .i64 t258, .int .i64 x256002_2, .bool x256003_2]) ?_ 2 _ rfl; (with_reducible repeat (first | refine blk_drewN ?_ _ | refine blk_drew ?_ | refine blk_alloc ?_ _)); refine blk_put (cs := #[.int .i64 t257, .int .i64 x256001_2, .int .i64 x256002_2, .bool x256003_2]) ?_ 1 _ rfl; (with_reducible repeat (first | refine blk_drewN ?_ _ | refine blk_drew ?_ | refine blk_alloc ?_ _)); refine blk_put (cs := #[.int .i64 x256000_2, .int .i64 x256001_2, .int .i64 x256002_2, .bool x256003_2]) ?_ 0 _ rfl; (with_reducible repeat (first | refine blk_drewN ?_ _ | refine blk_drew ?_ | refine blk_alloc ?_ _)); refine blk_far ?_ NB255_262.out _; (with_reducible repeat (first | refine blk_drewN ?_ _ | refine blk_drew ?_ | refine blk_alloc ?_ _)); refine blk_far ?_ NB255_262.out _; (with_reducible repeat (first | refine blk_drewN ?_ _ | refine blk_drew ?_ | refine blk_alloc ?_ _)); refine blk_far ?_ NB255_262.out _; (with_reducible repeat (first | refine blk_drewN ?_ _ | refine blk_drew ?_ | refine blk_alloc ?_ _)); refine blk_far ?_ NB255_262.out _; (with_reducible repeat (first | refine blk_drewN ?_ _ | refine blk_drew ?_ | refine blk_alloc ?_ _)); exact BK255.out⟩, ⟨by (with_reducible repeat (first | refine blk_drewN ?_ _ | refine blk_drew ?_ | refine blk_alloc ?_ _)); refine blk_far ?_ NB262_255.out _; (with_reducible repeat (first | refine blk_drewN ?_ _ | refine blk_drew ?_ | refine blk_alloc ?_ _)); refine blk_far ?_ NB262_255.out _; (with_reducible repeat (first | refine blk_drewN ?_ _ | refine blk_drew ?_ | refine blk_alloc ?_ _)); refine blk_far ?_ NB262_255.out _; (with_reducible repeat (first | refine blk_drewN ?_ _ | refine blk_drew ?_ | refine blk_alloc ?_ _)); refine blk_far ?_ NB262_255.out _; (with_reducible repeat (first | refine blk_drewN ?_ _ | refine blk_drew ?_ | refine blk_alloc ?_ _)); refine blk_put (cs := #[.int .i64 t257, .int .i64 t258, .int .i64 t259, .bool false]) ?_ 3 _ rfl; (with_reducible repeat (first | refine blk_drewN ?_ _ | refine blk_drew ?_ | refine blk_alloc ?_ _)); refine blk_put (cs := #[.int .i64 t257, .int .i64 t258, .int .i64 0, .bool false]) ?_ 2 _ rfl; (with_reducible repeat (first | refine blk_drewN ?_ _ | refine blk_drew ?_ | refine blk_alloc ?_ _)); refine blk_put (cs := #[.int .i64 t257, .int .i64 0, .int .i64 0, .bool false]) ?_ 1 _ rfl; (with_reducible repeat (first | refine blk_drewN ?_ _ | refine blk_drew ?_ | refine blk_alloc ?_ _)); refine blk_put (cs := #[.int .i64 0, .int .i64 0, .int .i64 0, .bool false]) ?_ 0 _ rfl; (with_reducible repeat (first | refine blk_drewN ?_ _ | refine blk_drew ?_ | refine blk_alloc ?_ _)); exact BK262.out⟩, ⟨by repeat (first | (with_reducible first | exact HB.out | apply below_alloc | apply pw_below_drewN | apply below_drew1 | refine below_set ?_ GE249.out | refine below_set ?_ GE255.out | refine below_set ?_ GE262.out) | exact HB.out)⟩⟩
                          · rw [if_neg c41] at H
                            have c41b0 : (((rd_T27 l1 x9_2).f0) == 5) = false := beq_eq_false_iff_ne.mpr c41
                            have c41b1 : (((rd_T27 l1 x9_2).f0) != 5) = true := bne_iff_ne.mpr c41
                            have HC43 := Aside0.mk H
                            clear H
                            go_upto_if 70 with (fail)
                            go_cut [70] (fun v70 wc => ∃ (kq : Nat) (x70_42 : Bool), v70 = .bool x70_42 ∧ Aside0 (chargeparklaw12_ChargerOrder.j2 kq l1 x5_2 x8_2 x9_2 x70_42 a0_0 a0_1 a0_2 a0_3 a0_4 a0_5 a0_6 a0_7 t257 t258 t259 t260 = some r) ∧ Aside0 (kq ≤ k2) ∧ Aside0 (wc.heap[gb249]? = some (.cells #[.string a0_0, .int .i64 a0_1, .int .i64 a0_2, .int .i64 a0_3, .int .i64 a0_4, .int .i64 a0_5, .int .i64 a0_6, .int .i64 a0_7] 23 (0, 0))) ∧ Aside0 (wc.heap[gb255]? = some (.cells #[.int .i64 t257, .int .i64 t258, .int .i64 t259, .bool t260] 25 (0, 0))) ∧ Aside0 (wc.heap[gb262]? = some (.cells #[.int .i64 t257, .int .i64 t258, .int .i64 t259, .bool t260] 25 (0, 0))) ∧ Aside0 (Below w.heap.size w wc))
                            case first =>
                              have H := HC43.out
                              clear HC43
                              by_cases c44 : ((rd_T27 l1 x9_2).f0) = 6
                              · rw [if_pos c44] at H
                                have c44b0 : (((rd_T27 l1 x9_2).f0) == 6) = true := beq_iff_eq.mpr c44
                                have c44b1 : (((rd_T27 l1 x9_2).f0) != 6) = false := bne_eq_false_iff_eq.mpr c44
                                clear c44
                                (first | rw [c44b0] | (simp only [i64_w, i32_w]; rw [c44b0]) | skip)
                                have H' := Aside0.mk H
                                clear H
                                go_wp2
                                go_meet
                                case rel => exact ⟨_, ((((rd_T27 l1 x9_2).f0) == 6)), (by first | rfl | (simp; done) | (simp [*]; done)), H', ⟨by have := HJ4.out; have := HK2.out; first | omega | exact Nat.le_refl _⟩, ⟨by (with_reducible repeat (first | refine blk_drewN ?_ _ | refine blk_drew ?_ | refine blk_alloc ?_ _)); refine blk_far ?_ NB249_255.out _; (with_reducible repeat (first | refine blk_drewN ?_ _ | refine blk_drew ?_ | refine blk_alloc ?_ _)); refine blk_far ?_ NB249_255.out _; (with_reducible repeat (first | refine blk_drewN ?_ _ | refine blk_drew ?_ | refine blk_alloc ?_ _)); refine blk_far ?_ NB249_255.out _; (with_reducible repeat (first | refine blk_drewN ?_ _ | refine blk_drew ?_ | refine blk_alloc ?_ _)); refine blk_far ?_ NB249_255.out _; (with_reducible repeat (first | refine blk_drewN ?_ _ | refine blk_drew ?_ | refine blk_alloc ?_ _)); refine blk_far ?_ NB249_262.out _; (with_reducible repeat (first | refine blk_drewN ?_ _ | refine blk_drew ?_ | refine blk_alloc ?_ _)); refine blk_far ?_ NB249_262.out _; (with_reducible repeat (first | refine blk_drewN ?_ _ | refine blk_drew ?_ | refine blk_alloc ?_ _)); refine blk_far ?_ NB249_262.out _; (with_reducible repeat (first | refine blk_drewN ?_ _ | refine blk_drew ?_ | refine blk_alloc ?_ _)); refine blk_far ?_ NB249_262.out _; (with_reducible repeat (first | refine blk_drewN ?_ _ | refine blk_drew ?_ | refine blk_alloc ?_ _)); exact BK249.out⟩, ⟨by (with_reducible repeat (first | refine blk_drewN ?_ _ | refine blk_drew ?_ | refine blk_alloc ?_ _)); refine blk_put (cs := #[.int .i64 t257, .int .i64 t258, .int .i64 t259, .bool x256003_2]) ?_ 3 _ rfl; (with_reducible repeat (first | refine blk_drewN ?_ _ | refine blk_drew ?_ | refine blk_alloc ?_ _)); refine blk_put (cs := #[.int .i64 t257, .int .i64 t258, .int .i64 x256002_2, .bool x256003_2]) ?_ 2 _ rfl; (with_reducible repeat (first | refine blk_drewN ?_ _ | refine blk_drew ?_ | refine blk_alloc ?_ _)); refine blk_put (cs := #[.int .i64 t257, .int .i64 x256001_2, .int .i64 x256002_2, .bool x256003_2]) ?_ 1 _ rfl; (with_reducible repeat (first | refine blk_drewN ?_ _ | refine blk_drew ?_ | refine blk_alloc ?_ _)); refine blk_put (cs := #[.int .i64 x256000_2, .int .i64 x256001_2, .int .i64 x256002_2, .bool x256003_2]) ?_ 0 _ rfl; (with_reducible repeat (first | refine blk_drewN ?_ _ | refine blk_drew ?_ | refine blk_alloc ?_ _)); refine blk_far ?_ NB255_262.out _; (with_reducible repeat (first | refine blk_drewN ?_ _ | refine blk_drew ?_ | refine blk_alloc ?_ _)); refine blk_far ?_ NB255_262.out _; (with_reducible repeat (first | refine blk_drewN ?_ _ | refine blk_drew ?_ | refine blk_alloc ?_ _)); refine blk_far ?_ NB255_262.out _; (with_reducible repeat (first | refine blk_drewN ?_ _ | refine blk_drew ?_ | refine blk_alloc ?_ _)); refine blk_far ?_ NB255_262.out _; (with_reducible repeat (first | refine blk_drewN ?_ _ | refine blk_drew ?_ | refine blk_alloc ?_ _)); exact BK255.out⟩, ⟨by (with_reducible repeat (first | refine blk_drewN ?_ _ | refine blk_drew ?_ | refine blk_alloc ?_ _)); refine blk_far ?_ NB262_255.out _; (with_reducible repeat (first | refine blk_drewN ?_ _ | refine blk_drew ?_ | refine blk_alloc ?_ _)); refine blk_far ?_ NB262_255.out _; (with_reducible repeat (first | refine blk_drewN ?_ _ | refine blk_drew ?_ | refine blk_alloc ?_ _)); refine blk_far ?_ NB262_255.out _; (with_reducible repeat (first | refine blk_drewN ?_ _ | refine blk_drew ?_ | refine blk_alloc ?_ _)); refine blk_far ?_ NB262_255.out _; (with_reducible repeat (first | refine blk_drewN ?_ _ | refine blk_drew ?_ | refine blk_alloc ?_ _)); refine blk_put (cs := #[.int .i64 t257, .int .i64 t258, .int .i64 t259, .bool false]) ?_ 3 _ rfl; (with_reducible repeat (first | refine blk_drewN ?_ _ | refine blk_drew ?_ | refine blk_alloc ?_ _)); refine blk_put (cs := #[.int .i64 t257, .int .i64 t258, .int .i64 0, .bool false]) ?_ 2 _ rfl; (with_reducible repeat (first | refine blk_drewN ?_ _ | refine blk_drew ?_ | refine blk_alloc ?_ _)); refine blk_put (cs := #[.int .i64 t257, .int .i64 0, .int .i64 0, .bool false]) ?_ 1 _ rfl; (with_reducible repeat (first | refine blk_drewN ?_ _ | refine blk_drew ?_ | refine blk_alloc ?_ _)); refine blk_put (cs := #[.int .i64 0, .int .i64 0, .int .i64 0, .bool false]) ?_ 0 _ rfl; (with_reducible repeat (first | refine blk_drewN ?_ _ | refine blk_drew ?_ | refine blk_alloc ?_ _)); exact BK262.out⟩, ⟨by repeat (first | (with_reducible first | exact HB.out | apply below_alloc | apply pw_below_drewN | apply below_drew1 | refine below_set ?_ GE249.out | refine below_set ?_ GE255.out | refine below_set ?_ GE262.out) | exact HB.out)⟩⟩
                              · rw [if_neg c44] at H
                                have c44b0 : (((rd_T27 l1 x9_2).f0) == 6) = false := beq_eq_false_iff_ne.mpr c44
                                have c44b1 : (((rd_T27 l1 x9_2).f0) != 6) = true := bne_iff_ne.mpr c44
                                (first | rw [c44b0] | (simp only [i64_w, i32_w]; rw [c44b0]) | skip)
                                by_cases c45 : ((rd_T27 l1 x9_2).f0) = 2
                                · rw [if_pos c45] at H
                                  have c45b0 : (((rd_T27 l1 x9_2).f0) == 2) = true := beq_iff_eq.mpr c45
                                  have c45b1 : (((rd_T27 l1 x9_2).f0) != 2) = false := bne_eq_false_iff_eq.mpr c45
                                  clear c45
                                  have H' := Aside0.mk H
                                  clear H
                                  go_wp2
                                  go_meet
                                  case rel => exact ⟨_, ((((rd_T27 l1 x9_2).f0) == 2)), (by first | rfl | (simp; done) | (simp [*]; done)), H', ⟨by have := HJ4.out; have := HK2.out; first | omega | exact Nat.le_refl _⟩, ⟨by (with_reducible repeat (first | refine blk_drewN ?_ _ | refine blk_drew ?_ | refine blk_alloc ?_ _)); refine blk_far ?_ NB249_255.out _; (with_reducible repeat (first | refine blk_drewN ?_ _ | refine blk_drew ?_ | refine blk_alloc ?_ _)); refine blk_far ?_ NB249_255.out _; (with_reducible repeat (first | refine blk_drewN ?_ _ | refine blk_drew ?_ | refine blk_alloc ?_ _)); refine blk_far ?_ NB249_255.out _; (with_reducible repeat (first | refine blk_drewN ?_ _ | refine blk_drew ?_ | refine blk_alloc ?_ _)); refine blk_far ?_ NB249_255.out _; (with_reducible repeat (first | refine blk_drewN ?_ _ | refine blk_drew ?_ | refine blk_alloc ?_ _)); refine blk_far ?_ NB249_262.out _; (with_reducible repeat (first | refine blk_drewN ?_ _ | refine blk_drew ?_ | refine blk_alloc ?_ _)); refine blk_far ?_ NB249_262.out _; (with_reducible repeat (first | refine blk_drewN ?_ _ | refine blk_drew ?_ | refine blk_alloc ?_ _)); refine blk_far ?_ NB249_262.out _; (with_reducible repeat (first | refine blk_drewN ?_ _ | refine blk_drew ?_ | refine blk_alloc ?_ _)); refine blk_far ?_ NB249_262.out _; (with_reducible repeat (first | refine blk_drewN ?_ _ | refine blk_drew ?_ | refine blk_alloc ?_ _)); exact BK249.out⟩, ⟨by (with_reducible repeat (first | refine blk_drewN ?_ _ | refine blk_drew ?_ | refine blk_alloc ?_ _)); refine blk_put (cs := #[.int .i64 t257, .int .i64 t258, .int .i64 t259, .bool x256003_2]) ?_ 3 _ rfl; (with_reducible repeat (first | refine blk_drewN ?_ _ | refine blk_drew ?_ | refine blk_alloc ?_ _)); refine blk_put (cs := #[.int .i64 t257, .int .i64 t258, .int .i64 x256002_2, .bool x256003_2]) ?_ 2 _ rfl; (with_reducible repeat (first | refine blk_drewN ?_ _ | refine blk_drew ?_ | refine blk_alloc ?_ _)); refine blk_put (cs := #[.int .i64 t257, .int .i64 x256001_2, .int .i64 x256002_2, .bool x256003_2]) ?_ 1 _ rfl; (with_reducible repeat (first | refine blk_drewN ?_ _ | refine blk_drew ?_ | refine blk_alloc ?_ _)); refine blk_put (cs := #[.int .i64 x256000_2, .int .i64 x256001_2, .int .i64 x256002_2, .bool x256003_2]) ?_ 0 _ rfl; (with_reducible repeat (first | refine blk_drewN ?_ _ | refine blk_drew ?_ | refine blk_alloc ?_ _)); refine blk_far ?_ NB255_262.out _; (with_reducible repeat (first | refine blk_drewN ?_ _ | refine blk_drew ?_ | refine blk_alloc ?_ _)); refine blk_far ?_ NB255_262.out _; (with_reducible repeat (first | refine blk_drewN ?_ _ | refine blk_drew ?_ | refine blk_alloc ?_ _)); refine blk_far ?_ NB255_262.out _; (with_reducible repeat (first | refine blk_drewN ?_ _ | refine blk_drew ?_ | refine blk_alloc ?_ _)); refine blk_far ?_ NB255_262.out _; (with_reducible repeat (first | refine blk_drewN ?_ _ | refine blk_drew ?_ | refine blk_alloc ?_ _)); exact BK255.out⟩, ⟨by (with_reducible repeat (first | refine blk_drewN ?_ _ | refine blk_drew ?_ | refine blk_alloc ?_ _)); refine blk_far ?_ NB262_255.out _; (with_reducible repeat (first | refine blk_drewN ?_ _ | refine blk_drew ?_ | refine blk_alloc ?_ _)); refine blk_far ?_ NB262_255.out _; (with_reducible repeat (first | refine blk_drewN ?_ _ | refine blk_drew ?_ | refine blk_alloc ?_ _)); refine blk_far ?_ NB262_255.out _; (with_reducible repeat (first | refine blk_drewN ?_ _ | refine blk_drew ?_ | refine blk_alloc ?_ _)); refine blk_far ?_ NB262_255.out _; (with_reducible repeat (first | refine blk_drewN ?_ _ | refine blk_drew ?_ | refine blk_alloc ?_ _)); refine blk_put (cs := #[.int .i64 t257, .int .i64 t258, .int .i64 t259, .bool false]) ?_ 3 _ rfl; (with_reducible repeat (first | refine blk_drewN ?_ _ | refine blk_drew ?_ | refine blk_alloc ?_ _)); refine blk_put (cs := #[.int .i64 t257, .int .i64 t258, .int .i64 0, .bool false]) ?_ 2 _ rfl; (with_reducible repeat (first | refine blk_drewN ?_ _ | refine blk_drew ?_ | refine blk_alloc ?_ _)); refine blk_put (cs := #[.int .i64 t257, .int .i64 0, .int .i64 0, .bool false]) ?_ 1 _ rfl; (with_reducible repeat (first | refine blk_drewN ?_ _ | refine blk_drew ?_ | refine blk_alloc ?_ _)); refine blk_put (cs := #[.int .i64 0, .int .i64 0, .int .i64 0, .bool false]) ?_ 0 _ rfl; (with_reducible repeat (first | refine blk_drewN ?_ _ | refine blk_drew ?_ | refine blk_alloc ?_ _)); exact BK262.out⟩, ⟨by repeat (first | (with_reducible first | exact HB.out | apply below_alloc | apply pw_below_drewN | apply below_drew1 | refine below_set ?_ GE249.out | refine below_set ?_ GE255.out | refine below_set ?_ GE262.out) | exact HB.out)⟩⟩
                                · rw [if_neg c45] at H
                                  have c45b0 : (((rd_T27 l1 x9_2).f0) == 2) = false := beq_eq_false_iff_ne.mpr c45
                                  have c45b1 : (((rd_T27 l1 x9_2).f0) != 2) = true := bne_iff_ne.mpr c45
                                  have H' := Aside0.mk H
                                  clear H
                                  go_wp2
                                  go_meet
                                  case rel => exact ⟨_, ((((rd_T27 l1 x9_2).f0) == 9)), (by first | rfl | (simp; done) | (simp [*]; done)), H', ⟨by have := HJ4.out; have := HK2.out; first | omega | exact Nat.le_refl _⟩, ⟨by (with_reducible repeat (first | refine blk_drewN ?_ _ | refine blk_drew ?_ | refine blk_alloc ?_ _)); refine blk_far ?_ NB249_255.out _; (with_reducible repeat (first | refine blk_drewN ?_ _ | refine blk_drew ?_ | refine blk_alloc ?_ _)); refine blk_far ?_ NB249_255.out _; (with_reducible repeat (first | refine blk_drewN ?_ _ | refine blk_drew ?_ | refine blk_alloc ?_ _)); refine blk_far ?_ NB249_255.out _; (with_reducible repeat (first | refine blk_drewN ?_ _ | refine blk_drew ?_ | refine blk_alloc ?_ _)); refine blk_far ?_ NB249_255.out _; (with_reducible repeat (first | refine blk_drewN ?_ _ | refine blk_drew ?_ | refine blk_alloc ?_ _)); refine blk_far ?_ NB249_262.out _; (with_reducible repeat (first | refine blk_drewN ?_ _ | refine blk_drew ?_ | refine blk_alloc ?_ _)); refine blk_far ?_ NB249_262.out _; (with_reducible repeat (first | refine blk_drewN ?_ _ | refine blk_drew ?_ | refine blk_alloc ?_ _)); refine blk_far ?_ NB249_262.out _; (with_reducible repeat (first | refine blk_drewN ?_ _ | refine blk_drew ?_ | refine blk_alloc ?_ _)); refine blk_far ?_ NB249_262.out _; (with_reducible repeat (first | refine blk_drewN ?_ _ | refine blk_drew ?_ | refine blk_alloc ?_ _)); exact BK249.out⟩, ⟨by (with_reducible repeat (first | refine blk_drewN ?_ _ | refine blk_drew ?_ | refine blk_alloc ?_ _)); refine blk_put (cs := #[.int .i64 t257, .int .i64 t258, .int .i64 t259, .bool x256003_2]) ?_ 3 _ rfl; (with_reducible repeat (first | refine blk_drewN ?_ _ | refine blk_drew ?_ | refine blk_alloc ?_ _)); refine blk_put (cs := #[.int .i64 t257, .int .i64 t258, .int .i64 x256002_2, .bool x256003_2]) ?_ 2 _ rfl; (with_reducible repeat (first | refine blk_drewN ?_ _ | refine blk_drew ?_ | refine blk_alloc ?_ _)); refine blk_put (cs := #[.int .i64 t257, .int .i64 x256001_2, .int .i64 x256002_2, .bool x256003_2]) ?_ 1 _ rfl; (with_reducible repeat (first | refine blk_drewN ?_ _ | refine blk_drew ?_ | refine blk_alloc ?_ _)); refine blk_put (cs := #[.int .i64 x256000_2, .int .i64 x256001_2, .int .i64 x256002_2, .bool x256003_2]) ?_ 0 _ rfl; (with_reducible repeat (first | refine blk_drewN ?_ _ | refine blk_drew ?_ | refine blk_alloc ?_ _)); refine blk_far ?_ NB255_262.out _; (with_reducible repeat (first | refine blk_drewN ?_ _ | refine blk_drew ?_ | refine blk_alloc ?_ _)); refine blk_far ?_ NB255_262.out _; (with_reducible repeat (first | refine blk_drewN ?_ _ | refine blk_drew ?_ | refine blk_alloc ?_ _)); refine blk_far ?_ NB255_262.out _; (with_reducible repeat (first | refine blk_drewN ?_ _ | refine blk_drew ?_ | refine blk_alloc ?_ _)); refine blk_far ?_ NB255_262.out _; (with_reducible repeat (first | refine blk_drewN ?_ _ | refine blk_drew ?_ | refine blk_alloc ?_ _)); exact BK255.out⟩, ⟨by (with_reducible repeat (first | refine blk_drewN ?_ _ | refine blk_drew ?_ | refine blk_alloc ?_ _)); refine blk_far ?_ NB262_255.out _; (with_reducible repeat (first | refine blk_drewN ?_ _ | refine blk_drew ?_ | refine blk_alloc ?_ _)); refine blk_far ?_ NB262_255.out _; (with_reducible repeat (first | refine blk_drewN ?_ _ | refine blk_drew ?_ | refine blk_alloc ?_ _)); refine blk_far ?_ NB262_255.out _; (with_reducible repeat (first | refine blk_drewN ?_ _ | refine blk_drew ?_ | refine blk_alloc ?_ _)); refine blk_far ?_ NB262_255.out _; (with_reducible repeat (first | refine blk_drewN ?_ _ | refine blk_drew ?_ | refine blk_alloc ?_ _)); refine blk_put (cs := #[.int .i64 t257, .int .i64 t258, .int .i64 t259, .bool false]) ?_ 3 _ rfl; (with_reducible repeat (first | refine blk_drewN ?_ _ | refine blk_drew ?_ | refine blk_alloc ?_ _)); refine blk_put (cs := #[.int .i64 t257, .int .i64 t258, .int .i64 0, .bool false]) ?_ 2 _ rfl; (with_reducible repeat (first | refine blk_drewN ?_ _ | refine blk_drew ?_ | refine blk_alloc ?_ _)); refine blk_put (cs := #[.int .i64 t257, .int .i64 0, .int .i64 0, .bool false]) ?_ 1 _ rfl; (with_reducible repeat (first | refine blk_drewN ?_ _ | refine blk_drew ?_ | refine blk_alloc ?_ _)); refine blk_put (cs := #[.int .i64 0, .int .i64 0, .int .i64 0, .bool false]) ?_ 0 _ rfl; (with_reducible repeat (first | refine blk_drewN ?_ _ | refine blk_drew ?_ | refine blk_alloc ?_ _)); exact BK262.out⟩, ⟨by repeat (first | (with_reducible first | exact HB.out | apply below_alloc | apply pw_below_drewN | apply below_drew1 | refine below_set ?_ GE249.out | refine below_set ?_ GE255.out | refine below_set ?_ GE262.out) | exact HB.out)⟩⟩
                            case rest =>
                              clear HC43
                              try clear c1
                              try clear p2
                              try clear q2
                              try clear hx2
                              try clear c3
                              try clear c4
                              try clear c11
                              try clear p26
                              try clear q26
                              try clear hx26
                              try clear c30
                              try clear c31
                              try clear c33
                              try clear c35
                              try clear c35b0
                              try clear c35b1
                              try clear c36
                              try clear c36b0
                              try clear c36b1
                              try clear c37
                              try clear c37b0
                              try clear c37b1
                              try clear c38
                              try clear c38b0
                              try clear c38b1
                              try clear c39
                              try clear c39b0
                              try clear c39b1
                              try clear c40
                              try clear c40b0
                              try clear c40b1
                              try clear c41
                              try clear c41b0
                              try clear c41b1
                              try clear c42
                              try clear c42b0
                              try clear c42b1
                              try clear c44
                              try clear c44b0
                              try clear c44b1
                              try clear c45
                              try clear c45b0
                              try clear c45b1
                              try clear hcz32_0
                              try clear hcz32_1
                              try clear hcz32_2
                              try clear hcz32_3
                              try clear hcz34_0
                              try clear hcz34_1
                              try clear hcz34_2
                              try clear hcz34_3
                              try clear hfz32_0
                              try clear hfz32_1
                              try clear hfz32_2
                              try clear hfz32_3
                              try clear hfz34_0
                              try clear hfz34_1
                              try clear hfz34_2
                              try clear hfz34_3
                              try clear hx263_0
                              try clear hx263_1
                              try clear hx263_2
                              try clear hx264_0
                              try clear hx264_1
                              try clear hx264_2
                              try clear p263
                              try clear p264
                              try clear q263
                              try clear q264
                              obtain ⟨kq, x70_42, rfl, HA, HJ42, BK249, BK255, BK262, HB⟩ := hcut
                              cases kq with
                              | zero => exact absurd HA.out (by simp [chargeparklaw12_ChargerOrder.j2])
                              | succ kj42 =>
                                have H := HA.out
                                clear HA
                                simp only [chargeparklaw12_ChargerOrder.j2] at H
                                by_cases c46 : x70_42 = true
                                · subst c46
                                  have H1 : (if t257 = 1 then (chargeparklaw12_ChargerOrder.j3 kj42 l1 x5_2 1 x9_2 a0_0 a0_1 a0_2 a0_3 a0_4 a0_5 a0_6 a0_7 t257 t258 t259 t260) else (chargeparklaw12_ChargerOrder.j3 kj42 l1 x5_2 0 x9_2 a0_0 a0_1 a0_2 a0_3 a0_4 a0_5 a0_6 a0_7 t257 t258 t259 t260)) = some r := by rw [if_pos rfl] at H; exact H
                                  clear H
                                  have H := H1
                                  clear H1
                                  by_cases c47 : t257 = 1
                                  · rw [if_pos c47] at H
                                    have c47b0 : (t257 == 1) = true := beq_iff_eq.mpr c47
                                    have c47b1 : (t257 != 1) = false := bne_eq_false_iff_eq.mpr c47
                                    clear c47
                                    have H' := Aside0.mk H
                                    clear H
                                    have hnb48 := NB255_249.out
                                    have hnc48 := NB249_255.out
                                    have hnb49 := NB255_262.out
                                    have hnc49 := NB262_255.out
                                    have hcz50_0 : wc.cell? ⟨gb255, 0, none⟩ = some (.int .i64 t257) := (blk_cell BK255.out 0).trans rfl
                                    have hcz50_1 : wc.cell? ⟨gb255, 1, none⟩ = some (.int .i64 t258) := (blk_cell BK255.out 1).trans rfl
                                    have hcz50_2 : wc.cell? ⟨gb255, 2, none⟩ = some (.int .i64 t259) := (blk_cell BK255.out 2).trans rfl
                                    have hcz50_3 : wc.cell? ⟨gb255, 3, none⟩ = some (.bool t260) := (blk_cell BK255.out 3).trans rfl
                                    have hfz50_0 := blk_frozen BK255.out 0
                                    have hfz50_1 := blk_frozen BK255.out 1
                                    have hfz50_2 := blk_frozen BK255.out 2
                                    have hfz50_3 := blk_frozen BK255.out 3
                                    go_wp2
                                    go_meet
                                    case rel => exact ⟨_, (1), (by first | rfl | (simp; done) | (simp [*]; done)), H', ⟨by have := HJ4.out; have := HK2.out; have := HJ42.out; first | omega | exact Nat.le_refl _⟩, ⟨by (with_reducible repeat (first | refine blk_drewN ?_ _ | refine blk_drew ?_ | refine blk_alloc ?_ _)); exact BK249.out⟩, ⟨by (with_reducible repeat (first | refine blk_drewN ?_ _ | refine blk_drew ?_ | refine blk_alloc ?_ _)); exact BK255.out⟩, ⟨by (with_reducible repeat (first | refine blk_drewN ?_ _ | refine blk_drew ?_ | refine blk_alloc ?_ _)); exact BK262.out⟩, ⟨by repeat (first | (with_reducible first | exact HB.out | apply below_alloc | apply pw_below_drewN | apply below_drew1 | refine below_set ?_ GE249.out | refine below_set ?_ GE255.out | refine below_set ?_ GE262.out) | exact HB.out)⟩⟩
                                  · rw [if_neg c47] at H
                                    have c47b0 : (t257 == 1) = false := beq_eq_false_iff_ne.mpr c47
                                    have c47b1 : (t257 != 1) = true := bne_iff_ne.mpr c47
                                    have H' := Aside0.mk H
                                    clear H
                                    have hnb51 := NB255_249.out
                                    have hnc51 := NB249_255.out
                                    have hnb52 := NB255_262.out
                                    have hnc52 := NB262_255.out
                                    have hcz53_0 : wc.cell? ⟨gb255, 0, none⟩ = some (.int .i64 t257) := (blk_cell BK255.out 0).trans rfl
                                    have hcz53_1 : wc.cell? ⟨gb255, 1, none⟩ = some (.int .i64 t258) := (blk_cell BK255.out 1).trans rfl
                                    have hcz53_2 : wc.cell? ⟨gb255, 2, none⟩ = some (.int .i64 t259) := (blk_cell BK255.out 2).trans rfl
                                    have hcz53_3 : wc.cell? ⟨gb255, 3, none⟩ = some (.bool t260) := (blk_cell BK255.out 3).trans rfl
                                    have hfz53_0 := blk_frozen BK255.out 0
                                    have hfz53_1 := blk_frozen BK255.out 1
                                    have hfz53_2 := blk_frozen BK255.out 2
                                    have hfz53_3 := blk_frozen BK255.out 3
                                    go_wp2
                                    go_meet
                                    case rel => exact ⟨_, (0), (by first | rfl | (simp; done) | (simp [*]; done)), H', ⟨by have := HJ4.out; have := HK2.out; have := HJ42.out; first | omega | exact Nat.le_refl _⟩, ⟨by (with_reducible repeat (first | refine blk_drewN ?_ _ | refine blk_drew ?_ | refine blk_alloc ?_ _)); exact BK249.out⟩, ⟨by (with_reducible repeat (first | refine blk_drewN ?_ _ | refine blk_drew ?_ | refine blk_alloc ?_ _)); exact BK255.out⟩, ⟨by (with_reducible repeat (first | refine blk_drewN ?_ _ | refine blk_drew ?_ | refine blk_alloc ?_ _)); exact BK262.out⟩, ⟨by repeat (first | (with_reducible first | exact HB.out | apply below_alloc | apply pw_below_drewN | apply below_drew1 | refine below_set ?_ GE249.out | refine below_set ?_ GE255.out | refine below_set ?_ GE262.out) | exact HB.out)⟩⟩
                                · replace c46 := Bool.eq_false_iff.mpr c46
                                  subst c46
                                  have H1 : (chargeparklaw12_ChargerOrder.j3 kj42 l1 x5_2 x8_2 x9_2 a0_0 a0_1 a0_2 a0_3 a0_4 a0_5 a0_6 a0_7 t257 t258 t259 t260) = some r := by rw [if_neg (show ¬ (false = true) by decide)] at H; exact H
                                  clear H
                                  have H := H1
                                  clear H1
                                  have H' := Aside0.mk H
                                  clear H
                                  go_wp2
                                  go_meet
                                  case rel => exact ⟨_, (x8_2), (by first | rfl | (simp; done) | (simp [*]; done)), H', ⟨by have := HJ4.out; have := HK2.out; have := HJ42.out; first | omega | exact Nat.le_refl _⟩, ⟨by (with_reducible repeat (first | refine blk_drewN ?_ _ | refine blk_drew ?_ | refine blk_alloc ?_ _)); exact BK249.out⟩, ⟨by (with_reducible repeat (first | refine blk_drewN ?_ _ | refine blk_drew ?_ | refine blk_alloc ?_ _)); exact BK255.out⟩, ⟨by (with_reducible repeat (first | refine blk_drewN ?_ _ | refine blk_drew ?_ | refine blk_alloc ?_ _)); exact BK262.out⟩, ⟨by repeat (first | (with_reducible first | exact HB.out | apply below_alloc | apply pw_below_drewN | apply below_drew1 | refine below_set ?_ GE249.out | refine below_set ?_ GE255.out | refine below_set ?_ GE262.out) | exact HB.out)⟩⟩
                  case rest =>
                    clear HC21
                    try clear c1
                    try clear p2
                    try clear q2
                    try clear hx2
                    try clear c3
                    try clear c4
                    try clear c5
                    try clear c11
                    try clear p26
                    try clear q26
                    try clear hx26
                    try clear c30
                    try clear c31
                    try clear c33
                    try clear c35
                    try clear c35b0
                    try clear c35b1
                    try clear c36
                    try clear c36b0
                    try clear c36b1
                    try clear c37
                    try clear c37b0
                    try clear c37b1
                    try clear c38
                    try clear c38b0
                    try clear c38b1
                    try clear c39
                    try clear c39b0
                    try clear c39b1
                    try clear c40
                    try clear c40b0
                    try clear c40b1
                    try clear c41
                    try clear c41b0
                    try clear c41b1
                    try clear c42
                    try clear c42b0
                    try clear c42b1
                    try clear c44
                    try clear c44b0
                    try clear c44b1
                    try clear c45
                    try clear c45b0
                    try clear c45b1
                    try clear c46
                    try clear c47
                    try clear c47b0
                    try clear c47b1
                    try clear c48
                    try clear c49
                    try clear c51
                    try clear c52
                    try clear hcz32_0
                    try clear hcz32_1
                    try clear hcz32_2
                    try clear hcz32_3
                    try clear hcz34_0
                    try clear hcz34_1
                    try clear hcz34_2
                    try clear hcz34_3
                    try clear hcz50_0
                    try clear hcz50_1
                    try clear hcz50_2
                    try clear hcz50_3
                    try clear hcz53_0
                    try clear hcz53_1
                    try clear hcz53_2
                    try clear hcz53_3
                    try clear hfz32_0
                    try clear hfz32_1
                    try clear hfz32_2
                    try clear hfz32_3
                    try clear hfz34_0
                    try clear hfz34_1
                    try clear hfz34_2
                    try clear hfz34_3
                    try clear hfz50_0
                    try clear hfz50_1
                    try clear hfz50_2
                    try clear hfz50_3
                    try clear hfz53_0
                    try clear hfz53_1
                    try clear hfz53_2
                    try clear hfz53_3
                    try clear hx263_0
                    try clear hx263_1
                    try clear hx263_2
                    try clear hx264_0
                    try clear hx264_1
                    try clear hx264_2
                    try clear p2
                    try clear p26
                    try clear p263
                    try clear p264
                    try clear q2
                    try clear q26
                    try clear q263
                    try clear q264
                    obtain ⟨kq, x8_20, rfl, HA, HJ20, BK249, BK255, BK262, HB⟩ := hcut
                    cases kq with
                    | zero => exact absurd HA.out (by simp [chargeparklaw12_ChargerOrder.j3])
                    | succ kj20 =>
                      have H := HA.out
                      clear HA
                      simp only [chargeparklaw12_ChargerOrder.j3] at H
                      by_cases c54 : x5_2 = true
                      · subst c54
                        have H1 : (chargeparklaw12_ChargerOrder.l0 kj20 l1 ((t257 == 4) == (x8_20 == 4)) x8_20 (wrap64 (x9_2 + 1)) a0_0 a0_1 a0_2 a0_3 a0_4 a0_5 a0_6 a0_7 t257 t258 t259 t260) = some r := by rw [if_pos rfl] at H; exact H
                        clear H
                        have H := H1
                        clear H1
                        have H' := Aside0.mk H
                        clear H
                        have hnb55 := NB255_249.out
                        have hnc55 := NB249_255.out
                        have hnb56 := NB255_262.out
                        have hnc56 := NB262_255.out
                        have hcz57_0 : wc.cell? ⟨gb255, 0, none⟩ = some (.int .i64 t257) := (blk_cell BK255.out 0).trans rfl
                        have hcz57_1 : wc.cell? ⟨gb255, 1, none⟩ = some (.int .i64 t258) := (blk_cell BK255.out 1).trans rfl
                        have hcz57_2 : wc.cell? ⟨gb255, 2, none⟩ = some (.int .i64 t259) := (blk_cell BK255.out 2).trans rfl
                        have hcz57_3 : wc.cell? ⟨gb255, 3, none⟩ = some (.bool t260) := (blk_cell BK255.out 3).trans rfl
                        have hfz57_0 := blk_frozen BK255.out 0
                        have hfz57_1 := blk_frozen BK255.out 1
                        have hfz57_2 := blk_frozen BK255.out 2
                        have hfz57_3 := blk_frozen BK255.out 3
                        go_wp2
                        go_roundg kj20
                        case measure => have := HJ4.out; have := HK2.out; have := HJ20.out; omega
                        case rel => exact ⟨(((t257 == 4) == (x8_20 == 4))), (x8_20), (wrap64 (x9_2 + 1)), (t257), (t258), (t259), (t260), (by first | rfl | (simp; done) | (simp [*]; done)), (by first | rfl | (simp; done) | (simp [*]; done)), (by first | rfl | (simp; done) | (simp [*]; done)), H', ⟨by have := HJ4.out; have := HK2.out; have := HJ20.out; omega⟩, ⟨by (with_reducible repeat (first | refine blk_drewN ?_ _ | refine blk_drew ?_ | refine blk_alloc ?_ _)); exact BK249.out⟩, ⟨by (with_reducible repeat (first | refine blk_drewN ?_ _ | refine blk_drew ?_ | refine blk_alloc ?_ _)); exact BK255.out⟩, ⟨by repeat (first | (with_reducible first | exact HB.out | apply below_alloc | apply pw_below_drewN | apply below_drew1 | refine below_set ?_ GE249.out | refine below_set ?_ GE255.out | refine below_set ?_ GE262.out) | exact HB.out)⟩⟩
                      · replace c54 := Bool.eq_false_iff.mpr c54
                        subst c54
                        have H1 : (chargeparklaw12_ChargerOrder.l0 kj20 l1 false x8_20 (wrap64 (x9_2 + 1)) a0_0 a0_1 a0_2 a0_3 a0_4 a0_5 a0_6 a0_7 t257 t258 t259 t260) = some r := by rw [if_neg (show ¬ (false = true) by decide)] at H; exact H
                        clear H
                        have H := H1
                        clear H1
                        have H' := Aside0.mk H
                        clear H
                        go_wp2
                        go_roundg kj20
                        case measure => have := HJ4.out; have := HK2.out; have := HJ20.out; omega
                        case rel => exact ⟨(false), (x8_20), (wrap64 (x9_2 + 1)), (t257), (t258), (t259), (t260), (by first | rfl | (simp; done) | (simp [*]; done)), (by first | rfl | (simp; done) | (simp [*]; done)), (by first | rfl | (simp; done) | (simp [*]; done)), H', ⟨by have := HJ4.out; have := HK2.out; have := HJ20.out; omega⟩, ⟨by (with_reducible repeat (first | refine blk_drewN ?_ _ | refine blk_drew ?_ | refine blk_alloc ?_ _)); exact BK249.out⟩, ⟨by (with_reducible repeat (first | refine blk_drewN ?_ _ | refine blk_drew ?_ | refine blk_alloc ?_ _)); exact BK255.out⟩, ⟨by repeat (first | (with_reducible first | exact HB.out | apply below_alloc | apply pw_below_drewN | apply below_drew1 | refine below_set ?_ GE249.out | refine below_set ?_ GE255.out | refine below_set ?_ GE262.out) | exact HB.out)⟩⟩
                · rw [if_neg c20] at H
                  have c20b0 : (t261 == 0) = false := beq_eq_false_iff_ne.mpr c20
                  have c20b1 : (t261 != 0) = true := bne_iff_ne.mpr c20
                  have H' := Aside0.mk H
                  clear H
                  try go_wp2
                  have n0_ := Aside0.mk (blk_drew BK249.out)
                  have n1_ := Aside0.mk (blk_drew BK255.out)
                  have n2_ := Aside0.mk (below_drew1 HB.out)
                  clear BK249
                  clear BK255
                  clear HB
                  have BK249 := n0_
                  have BK255 := n1_
                  have HB := n2_
                  clear n0_ n1_ n2_
                  have p256 : 0 ≤ (x9_2 : Int) := of_decide_eq_true (by first | (with_reducible assumption) | assumption)
                  have q256 : x9_2 < (l1.length : Int) := of_decide_eq_true (by first | (with_reducible assumption) | assumption)
                  obtain ⟨ad256, e256, hx256_0, hx256_1, hx256_2⟩ := at_T27 HR1.out x9_2 p256 q256
                  have hw256_2 := hx256_2
                  have hw256_1 := hx256_1
                  have hw256_0 := hx256_0
                  cases e256
                  replace hx256_0 := (HB.out.cell (World.block_lt_of_cell? w _ hx256_0)).trans hx256_0
                  replace hx256_1 := (HB.out.cell (World.block_lt_of_cell? w _ hx256_1)).trans hx256_1
                  replace hx256_2 := (HB.out.cell (World.block_lt_of_cell? w _ hx256_2)).trans hx256_2
                  replace p256 := eq_true p256
                  replace q256 := eq_true q256
                  refine start_ (n := 13) (S := fun w' => w'.cell? ⟨gb249, 0, none⟩ = some (.string a0_0) ∧ w'.cell? ⟨gb249, 1, none⟩ = some (.int .i64 a0_1) ∧ w'.cell? ⟨gb249, 2, none⟩ = some (.int .i64 a0_2) ∧ w'.cell? ⟨gb249, 3, none⟩ = some (.int .i64 a0_3) ∧ w'.cell? ⟨gb249, 4, none⟩ = some (.int .i64 a0_4) ∧ w'.cell? ⟨gb249, 5, none⟩ = some (.int .i64 a0_5) ∧ w'.cell? ⟨gb249, 6, none⟩ = some (.int .i64 a0_6) ∧ w'.cell? ⟨gb249, 7, none⟩ = some (.int .i64 a0_7) ∧ w'.cell? ⟨gb255, 0, none⟩ = some (.int .i64 x256000_2) ∧ w'.cell? ⟨gb255, 1, none⟩ = some (.int .i64 x256001_2) ∧ w'.cell? ⟨gb255, 2, none⟩ = some (.int .i64 x256002_2) ∧ w'.cell? ⟨gb255, 3, none⟩ = some (.bool x256003_2) ∧ w'.cell? (ad256.add ((x9_2).toNat * 3)) = some (.int .i64 ((rd_T27 l1 x9_2).f0)) ∧ w'.cell? ⟨(ad256.add ((x9_2).toNat * 3)).block, (ad256.add ((x9_2).toNat * 3)).off + 1, none⟩ = some (.int .i64 ((rd_T27 l1 x9_2).f1)) ∧ w'.cell? ⟨(ad256.add ((x9_2).toNat * 3)).block, (ad256.add ((x9_2).toNat * 3)).off + 2, none⟩ = some (.int .i64 ((rd_T27 l1 x9_2).f2))) (ds := []) #[false, false, false, false, false, false, false, false, false, false, false, false, false] (by kernel_rfl) rfl rfl ⟨(blk_cell BK249.out 0).trans rfl, (blk_cell BK249.out 1).trans rfl, (blk_cell BK249.out 2).trans rfl, (blk_cell BK249.out 3).trans rfl, (blk_cell BK249.out 4).trans rfl, (blk_cell BK249.out 5).trans rfl, (blk_cell BK249.out 6).trans rfl, (blk_cell BK249.out 7).trans rfl, (blk_cell BK255.out 0).trans rfl, (blk_cell BK255.out 1).trans rfl, (blk_cell BK255.out 2).trans rfl, (blk_cell BK255.out 3).trans rfl, ((HB.out.cell (World.block_lt_of_cell? w _ hw256_0)).trans hw256_0), ((HB.out.cell (World.block_lt_of_cell? w _ hw256_1)).trans hw256_1), ((HB.out.cell (World.block_lt_of_cell? w _ hw256_2)).trans hw256_2)⟩ (fun hHeld => ?_); refine with_tabW chargeparklaw12_ChargerOrder.tab10 chargeparklaw12_ChargerOrder.bits10 (fun HT_ HW_ => ?_)
                  generalize wr.drew = w58 at BK249 BK255 HB hx256_0 hx256_1 hx256_2 hHeld ⊢
                  refine pure_ (i := 2) (N := some 33) (v := ?_) (a' := ?_) #[false, false, true, false, false, false, false, false, false, false, false, false, false] rfl rfl (any_of HT_.out (by kernel_rfl)) (fun _ _ _ h => h) (Or.inl ⟨by rfl, ?_⟩) ?_ ?_
                  rotate_left
                  · intro w'
                    go_simp
                    with_reducible rfl
                  rotate_left
                  · simp only [Act.put, List.setIfInBounds_toArray, List.set_cons_zero, List.set_cons_succ, i64_w, i32_w]
                    rfl
                  refine pure_ (i := 3) (N := some 34) (v := ?_) (a' := ?_) #[false, false, true, true, false, false, false, false, false, false, false, false, false] rfl rfl (any_of HT_.out (by kernel_rfl)) (fun _ _ _ h => h) (Or.inl ⟨by rfl, ?_⟩) ?_ ?_
                  rotate_left
                  · intro w'
                    go_simp
                    with_reducible rfl
                  rotate_left
                  · simp only [Act.put, List.setIfInBounds_toArray, List.set_cons_zero, List.set_cons_succ, i64_w, i32_w]
                    rfl
                  refine pure_ (i := 4) (N := some 35) (v := ?_) (a' := ?_) #[false, false, true, true, true, false, false, false, false, false, false, false, false] rfl rfl (any_of HT_.out (by kernel_rfl)) (fun _ _ _ h => h) (Or.inl ⟨by rfl, ?_⟩) ?_ ?_
                  rotate_left
                  · intro w'
                    go_simp
                    with_reducible rfl
                  rotate_left
                  · simp only [Act.put, List.setIfInBounds_toArray, List.set_cons_zero, List.set_cons_succ, i64_w, i32_w]
                    rfl
                  refine take_ (i := 0) (N := some 31) (v := ?_) (a' := ?_) #[true, false, true, true, true, false, false, false, false, false, false, false, false] rfl rfl (take_ofW HT_.out HW_.out (by kernel_rfl)) (fun _ _ _ h => h) (Or.inl ⟨by rfl, ?_⟩) hHeld ?_ ?_
                  rotate_left
                  · rintro w' ⟨s0, s1, s2, s3, s4, s5, s6, s7, s8, s9, s10, s11, s12, s13, s14⟩
                    go_simp
                    with_reducible rfl
                  rotate_left
                  · simp only [Act.put, List.setIfInBounds_toArray, List.set_cons_zero, List.set_cons_succ, i64_w, i32_w]
                    rfl
                  refine take_ (i := 1) (N := some 32) (v := ?_) (a' := ?_) #[true, true, true, true, true, false, false, false, false, false, false, false, false] rfl rfl (take_ofW HT_.out HW_.out (by kernel_rfl)) (fun _ _ _ h => h) (Or.inl ⟨by rfl, ?_⟩) hHeld ?_ ?_
                  rotate_left
                  · rintro w' ⟨s0, s1, s2, s3, s4, s5, s6, s7, s8, s9, s10, s11, s12, s13, s14⟩
                    go_simp
                    with_reducible rfl
                  rotate_left
                  · simp only [Act.put, List.setIfInBounds_toArray, List.set_cons_zero, List.set_cons_succ, i64_w, i32_w]
                    rfl
                  refine take_ (i := 5) (N := some 36) (v := ?_) (a' := ?_) #[true, true, true, true, true, true, false, false, false, false, false, false, false] rfl rfl (take_ofW HT_.out HW_.out (by kernel_rfl)) (fun _ _ _ h => h) (Or.inl ⟨by rfl, ?_⟩) hHeld ?_ ?_
                  rotate_left
                  · rintro w' ⟨s0, s1, s2, s3, s4, s5, s6, s7, s8, s9, s10, s11, s12, s13, s14⟩
                    go_simp
                    with_reducible rfl
                  rotate_left
                  · simp only [Act.put, List.setIfInBounds_toArray, List.set_cons_zero, List.set_cons_succ, i64_w, i32_w]
                    rfl
                  refine join_ (σ := Nat) 2 #[true, true, true, true, true, true, true, true, true, true, true, false, false] (fun s_ => [(37, .tuple #[.agg #[.int .i64 t257, .int .i64 t258, .int .i64 t259, .bool t260], .int .i64 t261]), (10, .pointer (some ⟨s_, 0, none⟩)), (30, .tuple #[.agg #[.int .i64 t257, .int .i64 t258, .int .i64 t259, .bool t260], .int .i64 t261]), (38, .agg #[.int .i64 t257, .int .i64 t258, .int .i64 t259, .bool t260]), (39, .int .i64 t261)]) (fun s_ w' => (w'.cell? ⟨gb249, 0, none⟩ = some (.string a0_0) ∧ w'.cell? ⟨gb249, 1, none⟩ = some (.int .i64 a0_1) ∧ w'.cell? ⟨gb249, 2, none⟩ = some (.int .i64 a0_2) ∧ w'.cell? ⟨gb249, 3, none⟩ = some (.int .i64 a0_3) ∧ w'.cell? ⟨gb249, 4, none⟩ = some (.int .i64 a0_4) ∧ w'.cell? ⟨gb249, 5, none⟩ = some (.int .i64 a0_5) ∧ w'.cell? ⟨gb249, 6, none⟩ = some (.int .i64 a0_6) ∧ w'.cell? ⟨gb249, 7, none⟩ = some (.int .i64 a0_7) ∧ w'.cell? ⟨gb255, 0, none⟩ = some (.int .i64 x256000_2) ∧ w'.cell? ⟨gb255, 1, none⟩ = some (.int .i64 x256001_2) ∧ w'.cell? ⟨gb255, 2, none⟩ = some (.int .i64 x256002_2) ∧ w'.cell? ⟨gb255, 3, none⟩ = some (.bool x256003_2) ∧ w'.cell? (ad256.add ((x9_2).toNat * 3)) = some (.int .i64 ((rd_T27 l1 x9_2).f0)) ∧ w'.cell? ⟨(ad256.add ((x9_2).toNat * 3)).block, (ad256.add ((x9_2).toNat * 3)).off + 1, none⟩ = some (.int .i64 ((rd_T27 l1 x9_2).f1)) ∧ w'.cell? ⟨(ad256.add ((x9_2).toNat * 3)).block, (ad256.add ((x9_2).toNat * 3)).off + 2, none⟩ = some (.int .i64 ((rd_T27 l1 x9_2).f2))) ∧ (w'.heap[gb249]? = some (.cells #[.string a0_0, .int .i64 a0_1, .int .i64 a0_2, .int .i64 a0_3, .int .i64 a0_4, .int .i64 a0_5, .int .i64 a0_6, .int .i64 a0_7] 23 (0, 0))) ∧ (w'.heap[gb255]? = some (.cells #[.int .i64 x256000_2, .int .i64 x256001_2, .int .i64 x256002_2, .bool x256003_2] 25 (0, 0))) ∧ (w'.heap[s_]? = some (.cells #[.int .i64 0, .int .i64 0, .int .i64 0, .bool false] 25 (0, 0))) ∧ (w.heap.size ≤ s_) ∧ (w.heap.size ≤ s_) ∧ (gb249 ≠ s_) ∧ (s_ ≠ gb249) ∧ (gb255 ≠ s_) ∧ (s_ ≠ gb255) ∧ (Below w.heap.size w w')) ?_ ?_
                  rotate_left
                  · intro hCont
                    refine two_ (i := 6) (j := 10) (Ni := some 37) (Nj := some 10) #[true, true, true, true, true, true, true, false, false, false, false, false, false] #[true, true, true, true, true, true, false, false, false, false, true, false, false] rfl rfl rfl rfl (two_of HT_.out (by kernel_rfl)) (by decide) (by decide) (fun K hK => ?_) (fun K hK => ?_)
                    · skip
                      refine goes_ Tryd.func11 (by kernel_rfl) rfl #[.agg #[.string a0_0, .int .i64 a0_1, .int .i64 a0_2, .int .i64 a0_3, .int .i64 a0_4, .int .i64 a0_5, .int .i64 a0_6, .int .i64 a0_7], .agg #[.int .i64 x256000_2, .int .i64 x256001_2, .int .i64 x256002_2, .bool x256003_2], .agg #[.int .i64 ((rd_T27 l1 x9_2).f0), .int .i64 ((rd_T27 l1 x9_2).f1), .int .i64 ((rd_T27 l1 x9_2).f2)]] (by rfl) rfl rfl (by (try simp only [List.map_toArray, List.map_cons, List.map_nil]); first | done | rfl | (simp only [List.length_drop, List.length_take]; rfl)) ?_
                      with_reducible refine (charger_Step.calls a0_0 a0_1 a0_2 a0_3 a0_4 a0_5 a0_6 a0_7 x256000_2 x256001_2 x256002_2 x256003_2 ((rd_T27 l1 x9_2).f0) ((rd_T27 l1 x9_2).f1) ((rd_T27 l1 x9_2).f2) t257 t258 t259 t260 t261 _ (hG.below (by repeat (first | (with_reducible first | exact HB.out | apply below_alloc | apply pw_below_drewN | apply below_drew1) | exact HB.out | (refine Below.setCell ?_ (Aside0.out (by assumption)) _)))) A19.out).mono ?_
                      rintro e w59 ⟨rfl, hb⟩
                      refine ⟨_, rfl, ?_⟩
                      have n0_ := Aside0.mk (blk_below (g := gb249) (o := .cells #[.string a0_0, .int .i64 a0_1, .int .i64 a0_2, .int .i64 a0_3, .int .i64 a0_4, .int .i64 a0_5, .int .i64 a0_6, .int .i64 a0_7] 23 (0, 0)) (by (with_reducible repeat (first | refine blk_drewN ?_ _ | refine blk_drew ?_ | refine blk_alloc ?_ _)); exact BK249.out) hb)
                      have n1_ := Aside0.mk (blk_below (g := gb255) (o := .cells #[.int .i64 x256000_2, .int .i64 x256001_2, .int .i64 x256002_2, .bool x256003_2] 25 (0, 0)) (by (with_reducible repeat (first | refine blk_drewN ?_ _ | refine blk_drew ?_ | refine blk_alloc ?_ _)); exact BK255.out) hb)
                      have n2_ := Aside0.mk (below_step (by repeat (first | (with_reducible first | exact HB.out | apply below_alloc | apply pw_below_drewN | apply below_drew1 | refine below_set ?_ GE249.out | refine below_set ?_ GE255.out) | exact HB.out)) hb)
                      clear BK249
                      clear BK255
                      clear HB
                      have BK249 := n0_
                      have BK255 := n1_
                      have HB := n2_
                      clear n0_ n1_ n2_
                      (try clear hb)
                      (try clear hb2)
                      (try clear hk)
                      (try clear hi)
                      refine hK.out _ _ ⟨(blk_cell BK249.out 0).trans rfl, (blk_cell BK249.out 1).trans rfl, (blk_cell BK249.out 2).trans rfl, (blk_cell BK249.out 3).trans rfl, (blk_cell BK249.out 4).trans rfl, (blk_cell BK249.out 5).trans rfl, (blk_cell BK249.out 6).trans rfl, (blk_cell BK249.out 7).trans rfl, (blk_cell BK255.out 0).trans rfl, (blk_cell BK255.out 1).trans rfl, (blk_cell BK255.out 2).trans rfl, (blk_cell BK255.out 3).trans rfl, ((HB.out.cell (World.block_lt_of_cell? w _ hw256_0)).trans hw256_0), ((HB.out.cell (World.block_lt_of_cell? w _ hw256_1)).trans hw256_1), ((HB.out.cell (World.block_lt_of_cell? w _ hw256_2)).trans hw256_2)⟩ (fun hHeld => ?_)
                      clear hK K
                      refine norm_ (a' := ?_) ?_ ?_
                      rotate_left
                      · show Act.put _ (some 37) _ = _
                        simp only [Act.put, List.setIfInBounds_toArray, List.set_cons_zero, List.set_cons_succ, i64_w, i32_w]
                        rfl
                      refine pure_ (i := 7) (N := some 30) (v := ?_) (a' := ?_) #[true, true, true, true, true, true, true, true, false, false, false, false, false] rfl rfl (any_of HT_.out (by kernel_rfl)) (fun _ _ _ h => h) (Or.inl ⟨by rfl, ?_⟩) ?_ ?_
                      rotate_left
                      · intro w'
                        go_simp
                        with_reducible rfl
                      rotate_left
                      · simp only [Act.put, List.setIfInBounds_toArray, List.set_cons_zero, List.set_cons_succ, i64_w, i32_w]
                        rfl
                      refine pure_ (i := 8) (N := some 38) (v := ?_) (a' := ?_) #[true, true, true, true, true, true, true, true, true, false, false, false, false] rfl rfl (any_of HT_.out (by kernel_rfl)) (fun _ _ _ h => h) (Or.inl ⟨by rfl, ?_⟩) ?_ ?_
                      rotate_left
                      · intro w'
                        go_simp
                        with_reducible rfl
                      rotate_left
                      · simp only [Act.put, List.setIfInBounds_toArray, List.set_cons_zero, List.set_cons_succ, i64_w, i32_w]
                        rfl
                      refine pure_ (i := 9) (N := some 39) (v := ?_) (a' := ?_) #[true, true, true, true, true, true, true, true, true, true, false, false, false] rfl rfl (any_of HT_.out (by kernel_rfl)) (fun _ _ _ h => h) (Or.inl ⟨by rfl, ?_⟩) ?_ ?_
                      rotate_left
                      · intro w'
                        go_simp
                        with_reducible rfl
                      rotate_left
                      · simp only [Act.put, List.setIfInBounds_toArray, List.set_cons_zero, List.set_cons_succ, i64_w, i32_w]
                        rfl
                      refine one_ (i := 10) (N := some 10) #[true, true, true, true, true, true, true, true, true, true, true, false, false] rfl rfl (one_of HT_.out (by kernel_rfl)) (by decide) (fun K hK => ?_)
                      refine box_step ?hg (N := 10) ?hd (cs := #[.int .i64 0, .int .i64 0, .int .i64 0, .bool false]) (t := 25) ?hr ?_; (case hd => rfl); (case hg => rfl); (case hr => first | (go_simp; done) | (go_simp; rfl))
                      intro gb262 hg w60 hbox hb
                      have n0_ := Aside0.mk (blk_below (g := gb249) (o := .cells #[.string a0_0, .int .i64 a0_1, .int .i64 a0_2, .int .i64 a0_3, .int .i64 a0_4, .int .i64 a0_5, .int .i64 a0_6, .int .i64 a0_7] 23 (0, 0)) (by (with_reducible repeat (first | refine blk_drewN ?_ _ | refine blk_drew ?_ | refine blk_alloc ?_ _)); exact BK249.out) hb)
                      have n1_ := Aside0.mk (blk_below (g := gb255) (o := .cells #[.int .i64 x256000_2, .int .i64 x256001_2, .int .i64 x256002_2, .bool x256003_2] 25 (0, 0)) (by (with_reducible repeat (first | refine blk_drewN ?_ _ | refine blk_drew ?_ | refine blk_alloc ?_ _)); exact BK255.out) hb)
                      have n2_ := Aside0.mk (below_step (by repeat (first | (with_reducible first | exact HB.out | apply below_alloc | apply pw_below_drewN | apply below_drew1 | refine below_set ?_ GE249.out | refine below_set ?_ GE255.out) | exact HB.out)) hb)
                      have n3_ := Aside0.mk (hbox)
                      have n4_ := Aside0.mk ((by rw [hg]; exact (below_size (by repeat (first | (with_reducible first | exact HB.out | apply below_alloc | apply pw_below_drewN | apply below_drew1 | refine below_set ?_ GE249.out | refine below_set ?_ GE255.out) | exact HB.out))) : w.heap.size ≤ gb262))
                      have n5_ := Aside0.mk ((by rw [hg]; exact (below_size (by repeat (first | (with_reducible first | exact HB.out | apply below_alloc | apply pw_below_drewN | apply below_drew1 | refine below_set ?_ GE249.out | refine below_set ?_ GE255.out) | exact HB.out))) : w.heap.size ≤ gb262))
                      have n6_ := Aside0.mk ((by rw [hg]; exact Nat.ne_of_lt (blk_lt (g := gb249) (o := .cells #[.string a0_0, .int .i64 a0_1, .int .i64 a0_2, .int .i64 a0_3, .int .i64 a0_4, .int .i64 a0_5, .int .i64 a0_6, .int .i64 a0_7] 23 (0, 0)) (by (with_reducible repeat (first | refine blk_drewN ?_ _ | refine blk_drew ?_ | refine blk_alloc ?_ _)); exact BK249.out)) : gb249 ≠ gb262))
                      have n7_ := Aside0.mk ((by rw [hg]; exact Nat.ne_of_gt (blk_lt (g := gb249) (o := .cells #[.string a0_0, .int .i64 a0_1, .int .i64 a0_2, .int .i64 a0_3, .int .i64 a0_4, .int .i64 a0_5, .int .i64 a0_6, .int .i64 a0_7] 23 (0, 0)) (by (with_reducible repeat (first | refine blk_drewN ?_ _ | refine blk_drew ?_ | refine blk_alloc ?_ _)); exact BK249.out)) : gb262 ≠ gb249))
                      have n8_ := Aside0.mk ((by rw [hg]; exact Nat.ne_of_lt (blk_lt (g := gb255) (o := .cells #[.int .i64 x256000_2, .int .i64 x256001_2, .int .i64 x256002_2, .bool x256003_2] 25 (0, 0)) (by (with_reducible repeat (first | refine blk_drewN ?_ _ | refine blk_drew ?_ | refine blk_alloc ?_ _)); exact BK255.out)) : gb255 ≠ gb262))
                      have n9_ := Aside0.mk ((by rw [hg]; exact Nat.ne_of_gt (blk_lt (g := gb255) (o := .cells #[.int .i64 x256000_2, .int .i64 x256001_2, .int .i64 x256002_2, .bool x256003_2] 25 (0, 0)) (by (with_reducible repeat (first | refine blk_drewN ?_ _ | refine blk_drew ?_ | refine blk_alloc ?_ _)); exact BK255.out)) : gb262 ≠ gb255))
                      clear BK249
                      clear BK255
                      clear HB
                      have BK249 := n0_
                      have BK255 := n1_
                      have HB := n2_
                      have BK262 := n3_
                      have GW262 := n4_
                      have GE262 := n5_
                      have NB249_262 := n6_
                      have NB262_249 := n7_
                      have NB255_262 := n8_
                      have NB262_255 := n9_
                      clear n0_ n1_ n2_ n3_ n4_ n5_ n6_ n7_ n8_ n9_
                      clear hb hbox hg
                      refine hK.out _ _ ⟨(blk_cell BK249.out 0).trans rfl, (blk_cell BK249.out 1).trans rfl, (blk_cell BK249.out 2).trans rfl, (blk_cell BK249.out 3).trans rfl, (blk_cell BK249.out 4).trans rfl, (blk_cell BK249.out 5).trans rfl, (blk_cell BK249.out 6).trans rfl, (blk_cell BK249.out 7).trans rfl, (blk_cell BK255.out 0).trans rfl, (blk_cell BK255.out 1).trans rfl, (blk_cell BK255.out 2).trans rfl, (blk_cell BK255.out 3).trans rfl, ((HB.out.cell (World.block_lt_of_cell? w _ hw256_0)).trans hw256_0), ((HB.out.cell (World.block_lt_of_cell? w _ hw256_1)).trans hw256_1), ((HB.out.cell (World.block_lt_of_cell? w _ hw256_2)).trans hw256_2)⟩ (fun hHeld => ?_)
                      clear hK K
                      refine norm_ (a' := ?_) ?_ ?_
                      rotate_left
                      · show Act.put _ (some 10) _ = _
                        simp only [Act.put, List.setIfInBounds_toArray, List.set_cons_zero, List.set_cons_succ, i64_w, i32_w]
                        rfl
                      exact norm_ (by simp only [putAll, Act.put, List.setIfInBounds_toArray, List.set_cons_zero, List.set_cons_succ]) (hCont (gb262) _ ⟨hHeld, (by (with_reducible repeat (first | refine blk_drewN ?_ _ | refine blk_drew ?_ | refine blk_alloc ?_ _)); exact BK249.out), (by (with_reducible repeat (first | refine blk_drewN ?_ _ | refine blk_drew ?_ | refine blk_alloc ?_ _)); exact BK255.out), (by (with_reducible repeat (first | refine blk_drewN ?_ _ | refine blk_drew ?_ | refine blk_alloc ?_ _)); exact BK262.out), GW262.out, GE262.out, NB249_262.out, NB262_249.out, NB255_262.out, NB262_255.out, (by repeat (first | (with_reducible first | exact HB.out | apply below_alloc | apply pw_below_drewN | apply below_drew1 | refine below_set ?_ GE249.out | refine below_set ?_ GE255.out | refine below_set ?_ GE262.out) | exact HB.out))⟩)
                    · skip
                      refine box_step ?hg (N := 10) ?hd (cs := #[.int .i64 0, .int .i64 0, .int .i64 0, .bool false]) (t := 25) ?hr ?_; (case hd => rfl); (case hg => rfl); (case hr => first | (go_simp; done) | (go_simp; rfl))
                      intro gb262 hg w59 hbox hb
                      have n0_ := Aside0.mk (blk_below (g := gb249) (o := .cells #[.string a0_0, .int .i64 a0_1, .int .i64 a0_2, .int .i64 a0_3, .int .i64 a0_4, .int .i64 a0_5, .int .i64 a0_6, .int .i64 a0_7] 23 (0, 0)) (by (with_reducible repeat (first | refine blk_drewN ?_ _ | refine blk_drew ?_ | refine blk_alloc ?_ _)); exact BK249.out) hb)
                      have n1_ := Aside0.mk (blk_below (g := gb255) (o := .cells #[.int .i64 x256000_2, .int .i64 x256001_2, .int .i64 x256002_2, .bool x256003_2] 25 (0, 0)) (by (with_reducible repeat (first | refine blk_drewN ?_ _ | refine blk_drew ?_ | refine blk_alloc ?_ _)); exact BK255.out) hb)
                      have n2_ := Aside0.mk (below_step (by repeat (first | (with_reducible first | exact HB.out | apply below_alloc | apply pw_below_drewN | apply below_drew1 | refine below_set ?_ GE249.out | refine below_set ?_ GE255.out) | exact HB.out)) hb)
                      have n3_ := Aside0.mk (hbox)
                      have n4_ := Aside0.mk ((by rw [hg]; exact (below_size (by repeat (first | (with_reducible first | exact HB.out | apply below_alloc | apply pw_below_drewN | apply below_drew1 | refine below_set ?_ GE249.out | refine below_set ?_ GE255.out) | exact HB.out))) : w.heap.size ≤ gb262))
                      have n5_ := Aside0.mk ((by rw [hg]; exact (below_size (by repeat (first | (with_reducible first | exact HB.out | apply below_alloc | apply pw_below_drewN | apply below_drew1 | refine below_set ?_ GE249.out | refine below_set ?_ GE255.out) | exact HB.out))) : w.heap.size ≤ gb262))
                      have n6_ := Aside0.mk ((by rw [hg]; exact Nat.ne_of_lt (blk_lt (g := gb249) (o := .cells #[.string a0_0, .int .i64 a0_1, .int .i64 a0_2, .int .i64 a0_3, .int .i64 a0_4, .int .i64 a0_5, .int .i64 a0_6, .int .i64 a0_7] 23 (0, 0)) (by (with_reducible repeat (first | refine blk_drewN ?_ _ | refine blk_drew ?_ | refine blk_alloc ?_ _)); exact BK249.out)) : gb249 ≠ gb262))
                      have n7_ := Aside0.mk ((by rw [hg]; exact Nat.ne_of_gt (blk_lt (g := gb249) (o := .cells #[.string a0_0, .int .i64 a0_1, .int .i64 a0_2, .int .i64 a0_3, .int .i64 a0_4, .int .i64 a0_5, .int .i64 a0_6, .int .i64 a0_7] 23 (0, 0)) (by (with_reducible repeat (first | refine blk_drewN ?_ _ | refine blk_drew ?_ | refine blk_alloc ?_ _)); exact BK249.out)) : gb262 ≠ gb249))
                      have n8_ := Aside0.mk ((by rw [hg]; exact Nat.ne_of_lt (blk_lt (g := gb255) (o := .cells #[.int .i64 x256000_2, .int .i64 x256001_2, .int .i64 x256002_2, .bool x256003_2] 25 (0, 0)) (by (with_reducible repeat (first | refine blk_drewN ?_ _ | refine blk_drew ?_ | refine blk_alloc ?_ _)); exact BK255.out)) : gb255 ≠ gb262))
                      have n9_ := Aside0.mk ((by rw [hg]; exact Nat.ne_of_gt (blk_lt (g := gb255) (o := .cells #[.int .i64 x256000_2, .int .i64 x256001_2, .int .i64 x256002_2, .bool x256003_2] 25 (0, 0)) (by (with_reducible repeat (first | refine blk_drewN ?_ _ | refine blk_drew ?_ | refine blk_alloc ?_ _)); exact BK255.out)) : gb262 ≠ gb255))
                      clear BK249
                      clear BK255
                      clear HB
                      have BK249 := n0_
                      have BK255 := n1_
                      have HB := n2_
                      have BK262 := n3_
                      have GW262 := n4_
                      have GE262 := n5_
                      have NB249_262 := n6_
                      have NB262_249 := n7_
                      have NB255_262 := n8_
                      have NB262_255 := n9_
                      clear n0_ n1_ n2_ n3_ n4_ n5_ n6_ n7_ n8_ n9_
                      clear hb hbox hg
                      refine hK.out _ _ ⟨(blk_cell BK249.out 0).trans rfl, (blk_cell BK249.out 1).trans rfl, (blk_cell BK249.out 2).trans rfl, (blk_cell BK249.out 3).trans rfl, (blk_cell BK249.out 4).trans rfl, (blk_cell BK249.out 5).trans rfl, (blk_cell BK249.out 6).trans rfl, (blk_cell BK249.out 7).trans rfl, (blk_cell BK255.out 0).trans rfl, (blk_cell BK255.out 1).trans rfl, (blk_cell BK255.out 2).trans rfl, (blk_cell BK255.out 3).trans rfl, ((HB.out.cell (World.block_lt_of_cell? w _ hw256_0)).trans hw256_0), ((HB.out.cell (World.block_lt_of_cell? w _ hw256_1)).trans hw256_1), ((HB.out.cell (World.block_lt_of_cell? w _ hw256_2)).trans hw256_2)⟩ (fun hHeld => ?_)
                      clear hK K
                      refine norm_ (a' := ?_) ?_ ?_
                      rotate_left
                      · show Act.put _ (some 10) _ = _
                        simp only [Act.put, List.setIfInBounds_toArray, List.set_cons_zero, List.set_cons_succ, i64_w, i32_w]
                        rfl
                      refine one_ (i := 6) (N := some 37) #[true, true, true, true, true, true, true, false, false, false, true, false, false] rfl rfl (one_of HT_.out (by kernel_rfl)) (by decide) (fun K hK => ?_)
                      refine goes_ Tryd.func11 (by kernel_rfl) rfl #[.agg #[.string a0_0, .int .i64 a0_1, .int .i64 a0_2, .int .i64 a0_3, .int .i64 a0_4, .int .i64 a0_5, .int .i64 a0_6, .int .i64 a0_7], .agg #[.int .i64 x256000_2, .int .i64 x256001_2, .int .i64 x256002_2, .bool x256003_2], .agg #[.int .i64 ((rd_T27 l1 x9_2).f0), .int .i64 ((rd_T27 l1 x9_2).f1), .int .i64 ((rd_T27 l1 x9_2).f2)]] (by rfl) rfl rfl (by (try simp only [List.map_toArray, List.map_cons, List.map_nil]); first | done | rfl | (simp only [List.length_drop, List.length_take]; rfl)) ?_
                      with_reducible refine (charger_Step.calls a0_0 a0_1 a0_2 a0_3 a0_4 a0_5 a0_6 a0_7 x256000_2 x256001_2 x256002_2 x256003_2 ((rd_T27 l1 x9_2).f0) ((rd_T27 l1 x9_2).f1) ((rd_T27 l1 x9_2).f2) t257 t258 t259 t260 t261 _ (hG.below (by repeat (first | (with_reducible first | exact HB.out | apply below_alloc | apply pw_below_drewN | apply below_drew1) | exact HB.out | (refine Below.setCell ?_ (Aside0.out (by assumption)) _)))) A19.out).mono ?_
                      rintro e w60 ⟨rfl, hb⟩
                      refine ⟨_, rfl, ?_⟩
                      have n0_ := Aside0.mk (blk_below (g := gb249) (o := .cells #[.string a0_0, .int .i64 a0_1, .int .i64 a0_2, .int .i64 a0_3, .int .i64 a0_4, .int .i64 a0_5, .int .i64 a0_6, .int .i64 a0_7] 23 (0, 0)) (by (with_reducible repeat (first | refine blk_drewN ?_ _ | refine blk_drew ?_ | refine blk_alloc ?_ _)); exact BK249.out) hb)
                      have n1_ := Aside0.mk (blk_below (g := gb255) (o := .cells #[.int .i64 x256000_2, .int .i64 x256001_2, .int .i64 x256002_2, .bool x256003_2] 25 (0, 0)) (by (with_reducible repeat (first | refine blk_drewN ?_ _ | refine blk_drew ?_ | refine blk_alloc ?_ _)); exact BK255.out) hb)
                      have n2_ := Aside0.mk (blk_below (g := gb262) (o := .cells #[.int .i64 0, .int .i64 0, .int .i64 0, .bool false] 25 (0, 0)) (by (with_reducible repeat (first | refine blk_drewN ?_ _ | refine blk_drew ?_ | refine blk_alloc ?_ _)); exact BK262.out) hb)
                      have n3_ := Aside0.mk (below_step (by repeat (first | (with_reducible first | exact HB.out | apply below_alloc | apply pw_below_drewN | apply below_drew1 | refine below_set ?_ GE249.out | refine below_set ?_ GE255.out | refine below_set ?_ GE262.out) | exact HB.out)) hb)
                      clear BK249
                      clear BK255
                      clear BK262
                      clear HB
                      have BK249 := n0_
                      have BK255 := n1_
                      have BK262 := n2_
                      have HB := n3_
                      clear n0_ n1_ n2_ n3_
                      (try clear hb)
                      (try clear hb2)
                      (try clear hk)
                      (try clear hi)
                      refine hK.out _ _ ⟨(blk_cell BK249.out 0).trans rfl, (blk_cell BK249.out 1).trans rfl, (blk_cell BK249.out 2).trans rfl, (blk_cell BK249.out 3).trans rfl, (blk_cell BK249.out 4).trans rfl, (blk_cell BK249.out 5).trans rfl, (blk_cell BK249.out 6).trans rfl, (blk_cell BK249.out 7).trans rfl, (blk_cell BK255.out 0).trans rfl, (blk_cell BK255.out 1).trans rfl, (blk_cell BK255.out 2).trans rfl, (blk_cell BK255.out 3).trans rfl, ((HB.out.cell (World.block_lt_of_cell? w _ hw256_0)).trans hw256_0), ((HB.out.cell (World.block_lt_of_cell? w _ hw256_1)).trans hw256_1), ((HB.out.cell (World.block_lt_of_cell? w _ hw256_2)).trans hw256_2)⟩ (fun hHeld => ?_)
                      clear hK K
                      refine norm_ (a' := ?_) ?_ ?_
                      rotate_left
                      · show Act.put _ (some 37) _ = _
                        simp only [Act.put, List.setIfInBounds_toArray, List.set_cons_zero, List.set_cons_succ, i64_w, i32_w]
                        rfl
                      refine pure_ (i := 7) (N := some 30) (v := ?_) (a' := ?_) #[true, true, true, true, true, true, true, true, false, false, true, false, false] rfl rfl (any_of HT_.out (by kernel_rfl)) (fun _ _ _ h => h) (Or.inl ⟨by rfl, ?_⟩) ?_ ?_
                      rotate_left
                      · intro w'
                        go_simp
                        with_reducible rfl
                      rotate_left
                      · simp only [Act.put, List.setIfInBounds_toArray, List.set_cons_zero, List.set_cons_succ, i64_w, i32_w]
                        rfl
                      refine pure_ (i := 8) (N := some 38) (v := ?_) (a' := ?_) #[true, true, true, true, true, true, true, true, true, false, true, false, false] rfl rfl (any_of HT_.out (by kernel_rfl)) (fun _ _ _ h => h) (Or.inl ⟨by rfl, ?_⟩) ?_ ?_
                      rotate_left
                      · intro w'
                        go_simp
                        with_reducible rfl
                      rotate_left
                      · simp only [Act.put, List.setIfInBounds_toArray, List.set_cons_zero, List.set_cons_succ, i64_w, i32_w]
                        rfl
                      refine pure_ (i := 9) (N := some 39) (v := ?_) (a' := ?_) #[true, true, true, true, true, true, true, true, true, true, true, false, false] rfl rfl (any_of HT_.out (by kernel_rfl)) (fun _ _ _ h => h) (Or.inl ⟨by rfl, ?_⟩) ?_ ?_
                      rotate_left
                      · intro w'
                        go_simp
                        with_reducible rfl
                      rotate_left
                      · simp only [Act.put, List.setIfInBounds_toArray, List.set_cons_zero, List.set_cons_succ, i64_w, i32_w]
                        rfl
                      exact norm_ (by simp only [putAll, Act.put, List.setIfInBounds_toArray, List.set_cons_zero, List.set_cons_succ]) (hCont (gb262) _ ⟨hHeld, (by (with_reducible repeat (first | refine blk_drewN ?_ _ | refine blk_drew ?_ | refine blk_alloc ?_ _)); exact BK249.out), (by (with_reducible repeat (first | refine blk_drewN ?_ _ | refine blk_drew ?_ | refine blk_alloc ?_ _)); exact BK255.out), (by (with_reducible repeat (first | refine blk_drewN ?_ _ | refine blk_drew ?_ | refine blk_alloc ?_ _)); exact BK262.out), GW262.out, GE262.out, NB249_262.out, NB262_249.out, NB255_262.out, NB262_255.out, (by repeat (first | (with_reducible first | exact HB.out | apply below_alloc | apply pw_below_drewN | apply below_drew1 | refine below_set ?_ GE249.out | refine below_set ?_ GE255.out | refine below_set ?_ GE262.out) | exact HB.out))⟩)
                  rintro gb262 w61 ⟨hS_, h0_, h1_, h2_, h3_, h4_, h5_, h6_, h7_, h8_, h9_⟩
                  have n0_ : Aside0 (w61.heap[gb249]? = some (.cells #[.string a0_0, .int .i64 a0_1, .int .i64 a0_2, .int .i64 a0_3, .int .i64 a0_4, .int .i64 a0_5, .int .i64 a0_6, .int .i64 a0_7] 23 (0, 0))) := ⟨h0_⟩
                  have n1_ : Aside0 (w61.heap[gb255]? = some (.cells #[.int .i64 x256000_2, .int .i64 x256001_2, .int .i64 x256002_2, .bool x256003_2] 25 (0, 0))) := ⟨h1_⟩
                  have n2_ : Aside0 (w61.heap[gb262]? = some (.cells #[.int .i64 0, .int .i64 0, .int .i64 0, .bool false] 25 (0, 0))) := ⟨h2_⟩
                  have n3_ : Aside0 (w.heap.size ≤ gb262) := ⟨h3_⟩
                  have n4_ : Aside0 (w.heap.size ≤ gb262) := ⟨h4_⟩
                  have n5_ : Aside0 (gb249 ≠ gb262) := ⟨h5_⟩
                  have n6_ : Aside0 (gb262 ≠ gb249) := ⟨h6_⟩
                  have n7_ : Aside0 (gb255 ≠ gb262) := ⟨h7_⟩
                  have n8_ : Aside0 (gb262 ≠ gb255) := ⟨h8_⟩
                  have n9_ : Aside0 (Below w.heap.size w w61) := ⟨h9_⟩
                  clear BK249
                  clear BK255
                  clear HB
                  clear h0_ h1_ h2_ h3_ h4_ h5_ h6_ h7_ h8_ h9_
                  have BK249 := n0_
                  have BK255 := n1_
                  have BK262 := n2_
                  have GW262 := n3_
                  have GE262 := n4_
                  have NB249_262 := n5_
                  have NB262_249 := n6_
                  have NB255_262 := n7_
                  have NB262_255 := n8_
                  have HB := n9_
                  clear n0_ n1_ n2_ n3_ n4_ n5_ n6_ n7_ n8_ n9_
                  have hHeld : w61.cell? ⟨gb249, 0, none⟩ = some (.string a0_0) ∧ w61.cell? ⟨gb249, 1, none⟩ = some (.int .i64 a0_1) ∧ w61.cell? ⟨gb249, 2, none⟩ = some (.int .i64 a0_2) ∧ w61.cell? ⟨gb249, 3, none⟩ = some (.int .i64 a0_3) ∧ w61.cell? ⟨gb249, 4, none⟩ = some (.int .i64 a0_4) ∧ w61.cell? ⟨gb249, 5, none⟩ = some (.int .i64 a0_5) ∧ w61.cell? ⟨gb249, 6, none⟩ = some (.int .i64 a0_6) ∧ w61.cell? ⟨gb249, 7, none⟩ = some (.int .i64 a0_7) ∧ w61.cell? ⟨gb255, 0, none⟩ = some (.int .i64 x256000_2) ∧ w61.cell? ⟨gb255, 1, none⟩ = some (.int .i64 x256001_2) ∧ w61.cell? ⟨gb255, 2, none⟩ = some (.int .i64 x256002_2) ∧ w61.cell? ⟨gb255, 3, none⟩ = some (.bool x256003_2) ∧ w61.cell? (ad256.add ((x9_2).toNat * 3)) = some (.int .i64 ((rd_T27 l1 x9_2).f0)) ∧ w61.cell? ⟨(ad256.add ((x9_2).toNat * 3)).block, (ad256.add ((x9_2).toNat * 3)).off + 1, none⟩ = some (.int .i64 ((rd_T27 l1 x9_2).f1)) ∧ w61.cell? ⟨(ad256.add ((x9_2).toNat * 3)).block, (ad256.add ((x9_2).toNat * 3)).off + 2, none⟩ = some (.int .i64 ((rd_T27 l1 x9_2).f2)) := hS_
                  refine norm_ (a' := ?_) ?_ ?_
                  rotate_left
                  · simp only [putAll, Act.put, List.setIfInBounds_toArray, List.set_cons_zero, List.set_cons_succ]
                    rfl
                  refine one_ (i := 11) (N := none) #[true, true, true, true, true, true, true, true, true, true, true, true, false] rfl rfl (one_of HT_.out (by kernel_rfl)) (by decide) (fun K hK => ?_)
                  have hs62 : w61.cell? ⟨gb262, 0, none⟩ = some (.int .i64 0) := (blk_cell BK262.out 0).trans rfl
                  have hfs62 := blk_frozen BK262.out 0
                  have hns62_0 := NB249_262.out
                  have hns62_1 := NB255_262.out
                  have hms62_0 := NB262_249.out
                  have hms62_1 := NB262_255.out
                  have hs63 : w61.cell? ⟨gb262, 1, none⟩ = some (.int .i64 0) := (blk_cell BK262.out 1).trans rfl
                  have hfs63 := blk_frozen BK262.out 1
                  have hns63_0 := NB249_262.out
                  have hns63_1 := NB255_262.out
                  have hms63_0 := NB262_249.out
                  have hms63_1 := NB262_255.out
                  have hs64 : w61.cell? ⟨gb262, 2, none⟩ = some (.int .i64 0) := (blk_cell BK262.out 2).trans rfl
                  have hfs64 := blk_frozen BK262.out 2
                  have hns64_0 := NB249_262.out
                  have hns64_1 := NB255_262.out
                  have hms64_0 := NB262_249.out
                  have hms64_1 := NB262_255.out
                  have hs65 : w61.cell? ⟨gb262, 3, none⟩ = some (.bool false) := (blk_cell BK262.out 3).trans rfl
                  have hfs65 := blk_frozen BK262.out 3
                  have hns65_0 := NB249_262.out
                  have hns65_1 := NB255_262.out
                  have hms65_0 := NB262_249.out
                  have hms65_1 := NB262_255.out
                  refine skip_ (w1 := ?_) (by rfl) rfl ?_ ?_
                  rotate_left
                  · go_simp
                    rfl
                  refine hK.out _ _ ⟨((cell_far (p := ⟨gb262, _, none⟩) NB249_262.out _).trans (((cell_far (p := ⟨gb262, _, none⟩) NB249_262.out _).trans (((cell_far (p := ⟨gb262, _, none⟩) NB249_262.out _).trans (((cell_far (p := ⟨gb262, _, none⟩) NB249_262.out _).trans (hHeld.1)))))))), ((cell_far (p := ⟨gb262, _, none⟩) NB249_262.out _).trans (((cell_far (p := ⟨gb262, _, none⟩) NB249_262.out _).trans (((cell_far (p := ⟨gb262, _, none⟩) NB249_262.out _).trans (((cell_far (p := ⟨gb262, _, none⟩) NB249_262.out _).trans (hHeld.2.1)))))))), ((cell_far (p := ⟨gb262, _, none⟩) NB249_262.out _).trans (((cell_far (p := ⟨gb262, _, none⟩) NB249_262.out _).trans (((cell_far (p := ⟨gb262, _, none⟩) NB249_262.out _).trans (((cell_far (p := ⟨gb262, _, none⟩) NB249_262.out _).trans (hHeld.2.2.1)))))))), ((cell_far (p := ⟨gb262, _, none⟩) NB249_262.out _).trans (((cell_far (p := ⟨gb262, _, none⟩) NB249_262.out _).trans (((cell_far (p := ⟨gb262, _, none⟩) NB249_262.out _).trans (((cell_far (p := ⟨gb262, _, none⟩) NB249_262.out _).trans (hHeld.2.2.2.1)))))))), ((cell_far (p := ⟨gb262, _, none⟩) NB249_262.out _).trans (((cell_far (p := ⟨gb262, _, none⟩) NB249_262.out _).trans (((cell_far (p := ⟨gb262, _, none⟩) NB249_262.out _).trans (((cell_far (p := ⟨gb262, _, none⟩) NB249_262.out _).trans (hHeld.2.2.2.2.1)))))))), ((cell_far (p := ⟨gb262, _, none⟩) NB249_262.out _).trans (((cell_far (p := ⟨gb262, _, none⟩) NB249_262.out _).trans (((cell_far (p := ⟨gb262, _, none⟩) NB249_262.out _).trans (((cell_far (p := ⟨gb262, _, none⟩) NB249_262.out _).trans (hHeld.2.2.2.2.2.1)))))))), ((cell_far (p := ⟨gb262, _, none⟩) NB249_262.out _).trans (((cell_far (p := ⟨gb262, _, none⟩) NB249_262.out _).trans (((cell_far (p := ⟨gb262, _, none⟩) NB249_262.out _).trans (((cell_far (p := ⟨gb262, _, none⟩) NB249_262.out _).trans (hHeld.2.2.2.2.2.2.1)))))))), ((cell_far (p := ⟨gb262, _, none⟩) NB249_262.out _).trans (((cell_far (p := ⟨gb262, _, none⟩) NB249_262.out _).trans (((cell_far (p := ⟨gb262, _, none⟩) NB249_262.out _).trans (((cell_far (p := ⟨gb262, _, none⟩) NB249_262.out _).trans (hHeld.2.2.2.2.2.2.2.1)))))))), ((cell_far (p := ⟨gb262, _, none⟩) NB255_262.out _).trans (((cell_far (p := ⟨gb262, _, none⟩) NB255_262.out _).trans (((cell_far (p := ⟨gb262, _, none⟩) NB255_262.out _).trans (((cell_far (p := ⟨gb262, _, none⟩) NB255_262.out _).trans (hHeld.2.2.2.2.2.2.2.2.1)))))))), ((cell_far (p := ⟨gb262, _, none⟩) NB255_262.out _).trans (((cell_far (p := ⟨gb262, _, none⟩) NB255_262.out _).trans (((cell_far (p := ⟨gb262, _, none⟩) NB255_262.out _).trans (((cell_far (p := ⟨gb262, _, none⟩) NB255_262.out _).trans (hHeld.2.2.2.2.2.2.2.2.2.1)))))))), ((cell_far (p := ⟨gb262, _, none⟩) NB255_262.out _).trans (((cell_far (p := ⟨gb262, _, none⟩) NB255_262.out _).trans (((cell_far (p := ⟨gb262, _, none⟩) NB255_262.out _).trans (((cell_far (p := ⟨gb262, _, none⟩) NB255_262.out _).trans (hHeld.2.2.2.2.2.2.2.2.2.2.1)))))))), ((cell_far (p := ⟨gb262, _, none⟩) NB255_262.out _).trans (((cell_far (p := ⟨gb262, _, none⟩) NB255_262.out _).trans (((cell_far (p := ⟨gb262, _, none⟩) NB255_262.out _).trans (((cell_far (p := ⟨gb262, _, none⟩) NB255_262.out _).trans (hHeld.2.2.2.2.2.2.2.2.2.2.2.1)))))))), ((cell_far (p := ⟨gb262, _, none⟩) (by first | exact Nat.ne_of_lt (Nat.lt_of_lt_of_le (by have := World.block_lt_of_cell? _ _ hw256_0; first | rwa [add_block] at this | exact this) GW262.out) | (rw [add_block]; exact Nat.ne_of_lt (Nat.lt_of_lt_of_le (by have := World.block_lt_of_cell? _ _ hw256_0; first | rwa [add_block] at this | exact this) GW262.out)) | (show (Addr.add _ _).block ≠ _; rw [add_block]; exact Nat.ne_of_lt (Nat.lt_of_lt_of_le (by have := World.block_lt_of_cell? _ _ hw256_0; first | rwa [add_block] at this | exact this) GW262.out)) | (dsimp only; exact Nat.ne_of_lt (Nat.lt_of_lt_of_le (by have := World.block_lt_of_cell? _ _ hw256_0; first | rwa [add_block] at this | exact this) GW262.out))) _).trans (((cell_far (p := ⟨gb262, _, none⟩) (by first | exact Nat.ne_of_lt (Nat.lt_of_lt_of_le (by have := World.block_lt_of_cell? _ _ hw256_0; first | rwa [add_block] at this | exact this) GW262.out) | (rw [add_block]; exact Nat.ne_of_lt (Nat.lt_of_lt_of_le (by have := World.block_lt_of_cell? _ _ hw256_0; first | rwa [add_block] at this | exact this) GW262.out)) | (show (Addr.add _ _).block ≠ _; rw [add_block]; exact Nat.ne_of_lt (Nat.lt_of_lt_of_le (by have := World.block_lt_of_cell? _ _ hw256_0; first | rwa [add_block] at this | exact this) GW262.out)) | (dsimp only; exact Nat.ne_of_lt (Nat.lt_of_lt_of_le (by have := World.block_lt_of_cell? _ _ hw256_0; first | rwa [add_block] at this | exact this) GW262.out))) _).trans (((cell_far (p := ⟨gb262, _, none⟩) (by first | exact Nat.ne_of_lt (Nat.lt_of_lt_of_le (by have := World.block_lt_of_cell? _ _ hw256_0; first | rwa [add_block] at this | exact this) GW262.out) | (rw [add_block]; exact Nat.ne_of_lt (Nat.lt_of_lt_of_le (by have := World.block_lt_of_cell? _ _ hw256_0; first | rwa [add_block] at this | exact this) GW262.out)) | (show (Addr.add _ _).block ≠ _; rw [add_block]; exact Nat.ne_of_lt (Nat.lt_of_lt_of_le (by have := World.block_lt_of_cell? _ _ hw256_0; first | rwa [add_block] at this | exact this) GW262.out)) | (dsimp only; exact Nat.ne_of_lt (Nat.lt_of_lt_of_le (by have := World.block_lt_of_cell? _ _ hw256_0; first | rwa [add_block] at this | exact this) GW262.out))) _).trans (((cell_far (p := ⟨gb262, _, none⟩) (by first | exact Nat.ne_of_lt (Nat.lt_of_lt_of_le (by have := World.block_lt_of_cell? _ _ hw256_0; first | rwa [add_block] at this | exact this) GW262.out) | (rw [add_block]; exact Nat.ne_of_lt (Nat.lt_of_lt_of_le (by have := World.block_lt_of_cell? _ _ hw256_0; first | rwa [add_block] at this | exact this) GW262.out)) | (show (Addr.add _ _).block ≠ _; rw [add_block]; exact Nat.ne_of_lt (Nat.lt_of_lt_of_le (by have := World.block_lt_of_cell? _ _ hw256_0; first | rwa [add_block] at this | exact this) GW262.out)) | (dsimp only; exact Nat.ne_of_lt (Nat.lt_of_lt_of_le (by have := World.block_lt_of_cell? _ _ hw256_0; first | rwa [add_block] at this | exact this) GW262.out))) _).trans (hHeld.2.2.2.2.2.2.2.2.2.2.2.2.1)))))))), ((cell_far (p := ⟨gb262, _, none⟩) (by first | exact Nat.ne_of_lt (Nat.lt_of_lt_of_le (by have := World.block_lt_of_cell? _ _ hw256_1; first | rwa [add_block] at this | exact this) GW262.out) | (rw [add_block]; exact Nat.ne_of_lt (Nat.lt_of_lt_of_le (by have := World.block_lt_of_cell? _ _ hw256_1; first | rwa [add_block] at this | exact this) GW262.out)) | (show (Addr.add _ _).block ≠ _; rw [add_block]; exact Nat.ne_of_lt (Nat.lt_of_lt_of_le (by have := World.block_lt_of_cell? _ _ hw256_1; first | rwa [add_block] at this | exact this) GW262.out)) | (dsimp only; exact Nat.ne_of_lt (Nat.lt_of_lt_of_le (by have := World.block_lt_of_cell? _ _ hw256_1; first | rwa [add_block] at this | exact this) GW262.out))) _).trans (((cell_far (p := ⟨gb262, _, none⟩) (by first | exact Nat.ne_of_lt (Nat.lt_of_lt_of_le (by have := World.block_lt_of_cell? _ _ hw256_1; first | rwa [add_block] at this | exact this) GW262.out) | (rw [add_block]; exact Nat.ne_of_lt (Nat.lt_of_lt_of_le (by have := World.block_lt_of_cell? _ _ hw256_1; first | rwa [add_block] at this | exact this) GW262.out)) | (show (Addr.add _ _).block ≠ _; rw [add_block]; exact Nat.ne_of_lt (Nat.lt_of_lt_of_le (by have := World.block_lt_of_cell? _ _ hw256_1; first | rwa [add_block] at this | exact this) GW262.out)) | (dsimp only; exact Nat.ne_of_lt (Nat.lt_of_lt_of_le (by have := World.block_lt_of_cell? _ _ hw256_1; first | rwa [add_block] at this | exact this) GW262.out))) _).trans (((cell_far (p := ⟨gb262, _, none⟩) (by first | exact Nat.ne_of_lt (Nat.lt_of_lt_of_le (by have := World.block_lt_of_cell? _ _ hw256_1; first | rwa [add_block] at this | exact this) GW262.out) | (rw [add_block]; exact Nat.ne_of_lt (Nat.lt_of_lt_of_le (by have := World.block_lt_of_cell? _ _ hw256_1; first | rwa [add_block] at this | exact this) GW262.out)) | (show (Addr.add _ _).block ≠ _; rw [add_block]; exact Nat.ne_of_lt (Nat.lt_of_lt_of_le (by have := World.block_lt_of_cell? _ _ hw256_1; first | rwa [add_block] at this | exact this) GW262.out)) | (dsimp only; exact Nat.ne_of_lt (Nat.lt_of_lt_of_le (by have := World.block_lt_of_cell? _ _ hw256_1; first | rwa [add_block] at this | exact this) GW262.out))) _).trans (((cell_far (p := ⟨gb262, _, none⟩) (by first | exact Nat.ne_of_lt (Nat.lt_of_lt_of_le (by have := World.block_lt_of_cell? _ _ hw256_1; first | rwa [add_block] at this | exact this) GW262.out) | (rw [add_block]; exact Nat.ne_of_lt (Nat.lt_of_lt_of_le (by have := World.block_lt_of_cell? _ _ hw256_1; first | rwa [add_block] at this | exact this) GW262.out)) | (show (Addr.add _ _).block ≠ _; rw [add_block]; exact Nat.ne_of_lt (Nat.lt_of_lt_of_le (by have := World.block_lt_of_cell? _ _ hw256_1; first | rwa [add_block] at this | exact this) GW262.out)) | (dsimp only; exact Nat.ne_of_lt (Nat.lt_of_lt_of_le (by have := World.block_lt_of_cell? _ _ hw256_1; first | rwa [add_block] at this | exact this) GW262.out))) _).trans (hHeld.2.2.2.2.2.2.2.2.2.2.2.2.2.1)))))))), ((cell_far (p := ⟨gb262, _, none⟩) (by first | exact Nat.ne_of_lt (Nat.lt_of_lt_of_le (by have := World.block_lt_of_cell? _ _ hw256_2; first | rwa [add_block] at this | exact this) GW262.out) | (rw [add_block]; exact Nat.ne_of_lt (Nat.lt_of_lt_of_le (by have := World.block_lt_of_cell? _ _ hw256_2; first | rwa [add_block] at this | exact this) GW262.out)) | (show (Addr.add _ _).block ≠ _; rw [add_block]; exact Nat.ne_of_lt (Nat.lt_of_lt_of_le (by have := World.block_lt_of_cell? _ _ hw256_2; first | rwa [add_block] at this | exact this) GW262.out)) | (dsimp only; exact Nat.ne_of_lt (Nat.lt_of_lt_of_le (by have := World.block_lt_of_cell? _ _ hw256_2; first | rwa [add_block] at this | exact this) GW262.out))) _).trans (((cell_far (p := ⟨gb262, _, none⟩) (by first | exact Nat.ne_of_lt (Nat.lt_of_lt_of_le (by have := World.block_lt_of_cell? _ _ hw256_2; first | rwa [add_block] at this | exact this) GW262.out) | (rw [add_block]; exact Nat.ne_of_lt (Nat.lt_of_lt_of_le (by have := World.block_lt_of_cell? _ _ hw256_2; first | rwa [add_block] at this | exact this) GW262.out)) | (show (Addr.add _ _).block ≠ _; rw [add_block]; exact Nat.ne_of_lt (Nat.lt_of_lt_of_le (by have := World.block_lt_of_cell? _ _ hw256_2; first | rwa [add_block] at this | exact this) GW262.out)) | (dsimp only; exact Nat.ne_of_lt (Nat.lt_of_lt_of_le (by have := World.block_lt_of_cell? _ _ hw256_2; first | rwa [add_block] at this | exact this) GW262.out))) _).trans (((cell_far (p := ⟨gb262, _, none⟩) (by first | exact Nat.ne_of_lt (Nat.lt_of_lt_of_le (by have := World.block_lt_of_cell? _ _ hw256_2; first | rwa [add_block] at this | exact this) GW262.out) | (rw [add_block]; exact Nat.ne_of_lt (Nat.lt_of_lt_of_le (by have := World.block_lt_of_cell? _ _ hw256_2; first | rwa [add_block] at this | exact this) GW262.out)) | (show (Addr.add _ _).block ≠ _; rw [add_block]; exact Nat.ne_of_lt (Nat.lt_of_lt_of_le (by have := World.block_lt_of_cell? _ _ hw256_2; first | rwa [add_block] at this | exact this) GW262.out)) | (dsimp only; exact Nat.ne_of_lt (Nat.lt_of_lt_of_le (by have := World.block_lt_of_cell? _ _ hw256_2; first | rwa [add_block] at this | exact this) GW262.out))) _).trans (((cell_far (p := ⟨gb262, _, none⟩) (by first | exact Nat.ne_of_lt (Nat.lt_of_lt_of_le (by have := World.block_lt_of_cell? _ _ hw256_2; first | rwa [add_block] at this | exact this) GW262.out) | (rw [add_block]; exact Nat.ne_of_lt (Nat.lt_of_lt_of_le (by have := World.block_lt_of_cell? _ _ hw256_2; first | rwa [add_block] at this | exact this) GW262.out)) | (show (Addr.add _ _).block ≠ _; rw [add_block]; exact Nat.ne_of_lt (Nat.lt_of_lt_of_le (by have := World.block_lt_of_cell? _ _ hw256_2; first | rwa [add_block] at this | exact this) GW262.out)) | (dsimp only; exact Nat.ne_of_lt (Nat.lt_of_lt_of_le (by have := World.block_lt_of_cell? _ _ hw256_2; first | rwa [add_block] at this | exact this) GW262.out))) _).trans (hHeld.2.2.2.2.2.2.2.2.2.2.2.2.2.2))))))))⟩ (fun hHeld => ?_)
                  clear hK K
                  refine pure_ (i := 12) (N := some 11) (v := ?_) (a' := ?_) #[true, true, true, true, true, true, true, true, true, true, true, true, true] rfl rfl (any_of HT_.out (by kernel_rfl)) (fun _ _ _ h => h) (Or.inl ⟨by rfl, ?_⟩) ?_ ?_
                  rotate_left
                  · intro w'
                    go_simp
                    with_reducible rfl
                  rotate_left
                  · simp only [Act.put, List.setIfInBounds_toArray, List.set_cons_zero, List.set_cons_succ, i64_w, i32_w]
                    rfl
                  refine done_ (done_of HT_.out (by kernel_rfl)) ?_
                  try go_wp2
                  go_roundg k2
                  case measure => have := HJ4.out; have := HK2.out; omega
                  case rel => exact ⟨(x5_2), (x8_2), (wrap64 (x9_2 + 1)), (x256000_2), (x256001_2), (x256002_2), (x256003_2), (by first | rfl | (simp; done) | (simp [*]; done)), (by first | rfl | (simp; done) | (simp [*]; done)), (by first | rfl | (simp; done) | (simp [*]; done)), H', ⟨by have := HJ4.out; have := HK2.out; omega⟩, ⟨by (with_reducible repeat (first | refine blk_drewN ?_ _ | refine blk_drew ?_ | refine blk_alloc ?_ _)); refine blk_far ?_ NB249_262.out _; (with_reducible repeat (first | refine blk_drewN ?_ _ | refine blk_drew ?_ | refine blk_alloc ?_ _)); refine blk_far ?_ NB249_262.out _; (with_reducible repeat (first | refine blk_drewN ?_ _ | refine blk_drew ?_ | refine blk_alloc ?_ _)); refine blk_far ?_ NB249_262.out _; (with_reducible repeat (first | refine blk_drewN ?_ _ | refine blk_drew ?_ | refine blk_alloc ?_ _)); refine blk_far ?_ NB249_262.out _; (with_reducible repeat (first | refine blk_drewN ?_ _ | refine blk_drew ?_ | refine blk_alloc ?_ _)); exact BK249.out⟩, ⟨by (with_reducible repeat (first | refine blk_drewN ?_ _ | refine blk_drew ?_ | refine blk_alloc ?_ _)); refine blk_far ?_ NB255_262.out _; (with_reducible repeat (first | refine blk_drewN ?_ _ | refine blk_drew ?_ | refine blk_alloc ?_ _)); refine blk_far ?_ NB255_262.out _; (with_reducible repeat (first | refine blk_drewN ?_ _ | refine blk_drew ?_ | refine blk_alloc ?_ _)); refine blk_far ?_ NB255_262.out _; (with_reducible repeat (first | refine blk_drewN ?_ _ | refine blk_drew ?_ | refine blk_alloc ?_ _)); refine blk_far ?_ NB255_262.out _; (with_reducible repeat (first | refine blk_drewN ?_ _ | refine blk_drew ?_ | refine blk_alloc ?_ _)); exact BK255.out⟩, ⟨by repeat (first | (with_reducible first | exact HB.out | apply below_alloc | apply pw_below_drewN | apply below_drew1 | refine below_set ?_ GE249.out | refine below_set ?_ GE255.out | refine below_set ?_ GE262.out) | exact HB.out)⟩⟩
              · rw [if_neg c18] at H
                exact absurd H (by simp)
            · rw [if_neg c17] at H
              have c17b0 : decide (x9_2 < (l1.length : Int)) = false := decide_eq_false c17
              clear c17
              obtain rfl := Option.some.inj H
              simp only [Option.some.injEq, Prod.mk.injEq] at H
              obtain ⟨rfl⟩ := H
              go_wp2
              go_ret
              exact ⟨by first | rfl | (simp [errW_none, errW_some] <;> rfl) | (simp [*, errW_none, errW_some] <;> rfl), by repeat (first | (with_reducible first | exact HB.out | apply below_alloc | apply pw_below_drewN | apply below_drew1 | refine below_set ?_ GE249.out | refine below_set ?_ GE255.out) | exact HB.out)⟩

end Go.Proofs.YtnfanhnflcjphaaDoor.PAll
