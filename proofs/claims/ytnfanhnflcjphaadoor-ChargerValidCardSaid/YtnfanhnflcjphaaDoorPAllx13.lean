/- What the Go functions of this seat's laws return, told as Lean functions and proved by their walks; laid by a program of this session out of Lean's own print of the translation. No conditions of its own. -/
import Derived.Test.YtnfanhnflcjphaaDoorPAllx0
import Derived.Test.YtnfanhnflcjphaaDoorPAllx1
import Derived.Test.YtnfanhnflcjphaaDoorPAllx3
import Derived.Test.YtnfanhnflcjphaaDoorPAllx4
import Derived.Test.YtnfanhnflcjphaaDoorPAllx6
import Derived.Test.YtnfanhnflcjphaaDoorPAllx7
namespace Go.Proofs.YtnfanhnflcjphaaDoor.PAll
open Go.RowKit Go.Proofs.YtnfanhnflcjphaaDoorW.PrintWords Go.Proofs.YtnfanhnflcjphaaDoorW.PrintLast Go.Proofs.YtnfanhnflcjphaaDoorW.PrintMore
attribute [local go_sem] max2_int min2_int max_two min_two max_three min_three max_four min_four   -- for this text's walks alone
set_option linter.unusedVariables false
set_option linter.unusedSimpArgs false

attribute [local go_sem high] eqA25
/-! ### chargeparklaw12_ChargerValid: function 6 -/
mutual
def chargeparklaw12_ChargerValid.j0 : Nat → Bool → Int → ByteArray → Int → Int → Int → Int → Int → Int → Int → Int → Int → Int → Option (Bool)
  | 0, _, _, _, _, _, _, _, _, _, _, _, _, _ => none
  | k + 1, x7, x10, x285000, x285001, x285002, x285003, x285004, x285005, x285006, x285007, x287000, x287001, x287002 => if x287000 = 7 then (if x287001 ≥ 0 then (if x287001 ≤ x285004 then (if x287002 ≥ 1 then (chargeparklaw12_ChargerValid.j1 k x7 x10 (decide (x287002 ≤ 1000000)) x287000 x287001 x287002) else (chargeparklaw12_ChargerValid.j1 k x7 x10 false x287000 x287001 x287002)) else (chargeparklaw12_ChargerValid.j1 k x7 x10 false x287000 x287001 x287002)) else (chargeparklaw12_ChargerValid.j1 k x7 x10 false x287000 x287001 x287002)) else (chargeparklaw12_ChargerValid.j1 k x7 x10 false x287000 x287001 x287002)
def chargeparklaw12_ChargerValid.j1 : Nat → Bool → Int → Bool → Int → Int → Int → Option (Bool)
  | 0, _, _, _, _, _, _ => none
  | k + 1, x7, x10, x13, x287000, x287001, x287002 => if x7 = true then (if x10 = 0 then (some true) else (if x287000 = 8 then (some false) else (if x287000 = 9 then (some false) else (some (!x13))))) else (some false)
end
def chargeparklaw12_ChargerValid.f (k : Nat) (a0_0 : ByteArray) (a0_1 : Int) (a0_2 : Int) (a0_3 : Int) (a0_4 : Int) (a0_5 : Int) (a0_6 : Int) (a0_7 : Int) (a1_0 : Int) (a1_1 : Int) (a1_2 : Int) (a1_3 : Bool) (a2_0 : Int) (a2_1 : Int) (a2_2 : Int) : Option (Bool) := (chargeparklaw12_head_c.f).bind fun _ => ((chargeparkref12_Valid.f k a0_0 a0_1 a0_2 a0_3 a0_4 a0_5 a0_6 a0_7 a1_0 a1_1 a1_2 a1_3).bind fun t287 => (if t287 = true then ((charger_Step.f a0_0 a0_1 a0_2 a0_3 a0_4 a0_5 a0_6 a0_7 a1_0 a1_1 a1_2 a1_3 a2_0 a2_1 a2_2).bind fun bt288 => ((charger_Allowed.f a0_0 a0_1 a0_2 a0_3 a0_4 a0_5 a0_6 a0_7 a1_0 a1_1 a1_2 a1_3).bind fun t294 => ((chargeparkref12_Valid.f k a0_0 a0_1 a0_2 a0_3 a0_4 a0_5 a0_6 a0_7 bt288.1 bt288.2.1 bt288.2.2.1 bt288.2.2.2.1).bind fun t295 => (if t294 ≥ 0 then (if t294 ≤ a0_4 then (if bt288.2.2.2.2 = 0 then (if t295 = true then (chargeparklaw12_ChargerValid.j0 k true bt288.2.2.2.2 a0_0 a0_1 a0_2 a0_3 a0_4 a0_5 a0_6 a0_7 a2_0 a2_1 a2_2) else (chargeparklaw12_ChargerValid.j0 k false bt288.2.2.2.2 a0_0 a0_1 a0_2 a0_3 a0_4 a0_5 a0_6 a0_7 a2_0 a2_1 a2_2)) else (chargeparklaw12_ChargerValid.j0 k (bt288.1 == 0 && (bt288.2.1 == 0 && (bt288.2.2.1 == 0 && (!bt288.2.2.2.1)))) bt288.2.2.2.2 a0_0 a0_1 a0_2 a0_3 a0_4 a0_5 a0_6 a0_7 a2_0 a2_1 a2_2)) else (chargeparklaw12_ChargerValid.j0 k false bt288.2.2.2.2 a0_0 a0_1 a0_2 a0_3 a0_4 a0_5 a0_6 a0_7 a2_0 a2_1 a2_2)) else (chargeparklaw12_ChargerValid.j0 k false bt288.2.2.2.2 a0_0 a0_1 a0_2 a0_3 a0_4 a0_5 a0_6 a0_7 a2_0 a2_1 a2_2))))) else (some true)))
theorem chargeparklaw12_ChargerValid.mono_l : ∀ k, (∀ y0 y1 y2 y3 y4 y5 y6 y7 y8 y9 y10 y11 y12, LeO (chargeparklaw12_ChargerValid.j0 k y0 y1 y2 y3 y4 y5 y6 y7 y8 y9 y10 y11 y12) (chargeparklaw12_ChargerValid.j0 (k + 1) y0 y1 y2 y3 y4 y5 y6 y7 y8 y9 y10 y11 y12)) ∧ (∀ y0 y1 y2 y3 y4 y5, LeO (chargeparklaw12_ChargerValid.j1 k y0 y1 y2 y3 y4 y5) (chargeparklaw12_ChargerValid.j1 (k + 1) y0 y1 y2 y3 y4 y5))
  | 0 => ⟨fun _ _ _ _ _ _ _ _ _ _ _ _ _ r h => by simp [chargeparklaw12_ChargerValid.j0] at h, fun _ _ _ _ _ _ r h => by simp [chargeparklaw12_ChargerValid.j1] at h⟩
  | k + 1 => by
    obtain ⟨ih0, ih1⟩ := chargeparklaw12_ChargerValid.mono_l k
    refine ⟨?_, ?_⟩
    · intro y0 y1 y2 y3 y4 y5 y6 y7 y8 y9 y10 y11 y12
      unfold chargeparklaw12_ChargerValid.j0
      repeat' first
      | (with_reducible exact ih0 _ _ _ _ _ _ _ _ _ _ _ _ _)
      | (with_reducible exact ih1 _ _ _ _ _ _)
      | (with_reducible exact chargeparkref12_Valid.mono _ _ _ _ _ _ _ _ _ _ _ _ _)
      | (with_reducible exact LeO.refl _)
      | (with_reducible exact LeO.none _)
      | (with_reducible refine LeO.ite ?_ ?_)
      | (with_reducible refine LeO.bind ?_ (fun _ => ?_))
      | exact ih0 _ _ _ _ _ _ _ _ _ _ _ _ _
      | exact ih1 _ _ _ _ _ _
      | exact chargeparkref12_Valid.mono _ _ _ _ _ _ _ _ _ _ _ _ _
      | exact LeO.none _
      | refine LeO.ite ?_ ?_
      | refine LeO.bind ?_ (fun _ => ?_)
    · intro y0 y1 y2 y3 y4 y5
      unfold chargeparklaw12_ChargerValid.j1
      repeat' first
      | (with_reducible exact ih0 _ _ _ _ _ _ _ _ _ _ _ _ _)
      | (with_reducible exact ih1 _ _ _ _ _ _)
      | (with_reducible exact chargeparkref12_Valid.mono _ _ _ _ _ _ _ _ _ _ _ _ _)
      | (with_reducible exact LeO.refl _)
      | (with_reducible exact LeO.none _)
      | (with_reducible refine LeO.ite ?_ ?_)
      | (with_reducible refine LeO.bind ?_ (fun _ => ?_))
      | exact ih0 _ _ _ _ _ _ _ _ _ _ _ _ _
      | exact ih1 _ _ _ _ _ _
      | exact chargeparkref12_Valid.mono _ _ _ _ _ _ _ _ _ _ _ _ _
      | exact LeO.none _
      | refine LeO.ite ?_ ?_
      | refine LeO.bind ?_ (fun _ => ?_)
theorem chargeparklaw12_ChargerValid.mono : ∀ a0 a1 a2 a3 a4 a5 a6 a7 a8 a9 a10 a11 a12 a13 a14 k, LeO (chargeparklaw12_ChargerValid.f k a0 a1 a2 a3 a4 a5 a6 a7 a8 a9 a10 a11 a12 a13 a14) (chargeparklaw12_ChargerValid.f (k + 1) a0 a1 a2 a3 a4 a5 a6 a7 a8 a9 a10 a11 a12 a13 a14) := by
  intro a0 a1 a2 a3 a4 a5 a6 a7 a8 a9 a10 a11 a12 a13 a14 k
  obtain ⟨ih0, ih1⟩ := chargeparklaw12_ChargerValid.mono_l k
  unfold chargeparklaw12_ChargerValid.f
  repeat' first
      | (with_reducible exact ih0 _ _ _ _ _ _ _ _ _ _ _ _ _)
      | (with_reducible exact ih1 _ _ _ _ _ _)
      | (with_reducible exact chargeparkref12_Valid.mono _ _ _ _ _ _ _ _ _ _ _ _ _)
      | (with_reducible exact LeO.refl _)
      | (with_reducible exact LeO.none _)
      | (with_reducible refine LeO.ite ?_ ?_)
      | (with_reducible refine LeO.bind ?_ (fun _ => ?_))
      | exact ih0 _ _ _ _ _ _ _ _ _ _ _ _ _
      | exact ih1 _ _ _ _ _ _
      | exact chargeparkref12_Valid.mono _ _ _ _ _ _ _ _ _ _ _ _ _
      | exact LeO.none _
      | refine LeO.ite ?_ ?_
      | refine LeO.bind ?_ (fun _ => ?_)
set_option maxHeartbeats 8000000 in
set_option maxRecDepth 100000 in
theorem chargeparklaw12_ChargerValid.calls (k : Nat) (a0_0 : ByteArray) (a0_1 : Int) (a0_2 : Int) (a0_3 : Int) (a0_4 : Int) (a0_5 : Int) (a0_6 : Int) (a0_7 : Int) (a1_0 : Int) (a1_1 : Int) (a1_2 : Int) (a1_3 : Bool) (a2_0 : Int) (a2_1 : Int) (a2_2 : Int) (r : Bool) (w : World) (hG : Hand.G w) (h : chargeparklaw12_ChargerValid.f k a0_0 a0_1 a0_2 a0_3 a0_4 a0_5 a0_6 a0_7 a1_0 a1_1 a1_2 a1_3 a2_0 a2_1 a2_2 = some r) (hr : Aside0 (r = true)) :
    Calls Tryd.prog 6 #[.agg #[.string a0_0, .int .i64 a0_1, .int .i64 a0_2, .int .i64 a0_3, .int .i64 a0_4, .int .i64 a0_5, .int .i64 a0_6, .int .i64 a0_7], .agg #[.int .i64 a1_0, .int .i64 a1_1, .int .i64 a1_2, .bool a1_3], .agg #[.int .i64 a2_0, .int .i64 a2_1, .int .i64 a2_2]] w fun e w' => e = .returned (.bool r) ∧ Below w.heap.size w w' := by
  have hu23 := Tryd.underlying23
  have hu25 := Tryd.underlying25
  have hu27 := Tryd.underlying27
  have HB := Aside0.mk (Below.refl w.heap.size w)
  have H : ((chargeparklaw12_head_c.f).bind fun _ => ((chargeparkref12_Valid.f k a0_0 a0_1 a0_2 a0_3 a0_4 a0_5 a0_6 a0_7 a1_0 a1_1 a1_2 a1_3).bind fun t287 => (if t287 = true then ((charger_Step.f a0_0 a0_1 a0_2 a0_3 a0_4 a0_5 a0_6 a0_7 a1_0 a1_1 a1_2 a1_3 a2_0 a2_1 a2_2).bind fun bt288 => ((charger_Allowed.f a0_0 a0_1 a0_2 a0_3 a0_4 a0_5 a0_6 a0_7 a1_0 a1_1 a1_2 a1_3).bind fun t294 => ((chargeparkref12_Valid.f k a0_0 a0_1 a0_2 a0_3 a0_4 a0_5 a0_6 a0_7 bt288.1 bt288.2.1 bt288.2.2.1 bt288.2.2.2.1).bind fun t295 => (if t294 ≥ 0 then (if t294 ≤ a0_4 then (if bt288.2.2.2.2 = 0 then (if t295 = true then (chargeparklaw12_ChargerValid.j0 k true bt288.2.2.2.2 a0_0 a0_1 a0_2 a0_3 a0_4 a0_5 a0_6 a0_7 a2_0 a2_1 a2_2) else (chargeparklaw12_ChargerValid.j0 k false bt288.2.2.2.2 a0_0 a0_1 a0_2 a0_3 a0_4 a0_5 a0_6 a0_7 a2_0 a2_1 a2_2)) else (chargeparklaw12_ChargerValid.j0 k (bt288.1 == 0 && (bt288.2.1 == 0 && (bt288.2.2.1 == 0 && (!bt288.2.2.2.1)))) bt288.2.2.2.2 a0_0 a0_1 a0_2 a0_3 a0_4 a0_5 a0_6 a0_7 a2_0 a2_1 a2_2)) else (chargeparklaw12_ChargerValid.j0 k false bt288.2.2.2.2 a0_0 a0_1 a0_2 a0_3 a0_4 a0_5 a0_6 a0_7 a2_0 a2_1 a2_2)) else (chargeparklaw12_ChargerValid.j0 k false bt288.2.2.2.2 a0_0 a0_1 a0_2 a0_3 a0_4 a0_5 a0_6 a0_7 a2_0 a2_1 a2_2))))) else (some true)))) = some r := h
  clear h
  replace H := Option.bind_eq_some_iff.mp H
  obtain ⟨tc_, A40, H⟩ := H
  obtain rfl : true = tc_ := Option.some.inj ((show chargeparklaw12_head_c.f = some true by kernel_rfl).symm.trans A40)
  replace H : ((chargeparkref12_Valid.f k a0_0 a0_1 a0_2 a0_3 a0_4 a0_5 a0_6 a0_7 a1_0 a1_1 a1_2 a1_3).bind fun t287 => (if t287 = true then ((charger_Step.f a0_0 a0_1 a0_2 a0_3 a0_4 a0_5 a0_6 a0_7 a1_0 a1_1 a1_2 a1_3 a2_0 a2_1 a2_2).bind fun bt288 => ((charger_Allowed.f a0_0 a0_1 a0_2 a0_3 a0_4 a0_5 a0_6 a0_7 a1_0 a1_1 a1_2 a1_3).bind fun t294 => ((chargeparkref12_Valid.f k a0_0 a0_1 a0_2 a0_3 a0_4 a0_5 a0_6 a0_7 bt288.1 bt288.2.1 bt288.2.2.1 bt288.2.2.2.1).bind fun t295 => (if t294 ≥ 0 then (if t294 ≤ a0_4 then (if bt288.2.2.2.2 = 0 then (if t295 = true then (chargeparklaw12_ChargerValid.j0 k true bt288.2.2.2.2 a0_0 a0_1 a0_2 a0_3 a0_4 a0_5 a0_6 a0_7 a2_0 a2_1 a2_2) else (chargeparklaw12_ChargerValid.j0 k false bt288.2.2.2.2 a0_0 a0_1 a0_2 a0_3 a0_4 a0_5 a0_6 a0_7 a2_0 a2_1 a2_2)) else (chargeparklaw12_ChargerValid.j0 k (bt288.1 == 0 && (bt288.2.1 == 0 && (bt288.2.2.1 == 0 && (!bt288.2.2.2.1)))) bt288.2.2.2.2 a0_0 a0_1 a0_2 a0_3 a0_4 a0_5 a0_6 a0_7 a2_0 a2_1 a2_2)) else (chargeparklaw12_ChargerValid.j0 k false bt288.2.2.2.2 a0_0 a0_1 a0_2 a0_3 a0_4 a0_5 a0_6 a0_7 a2_0 a2_1 a2_2)) else (chargeparklaw12_ChargerValid.j0 k false bt288.2.2.2.2 a0_0 a0_1 a0_2 a0_3 a0_4 a0_5 a0_6 a0_7 a2_0 a2_1 a2_2))))) else (some true))) = some r := H
  have A4 := Aside0.mk A40
  clear A40
  replace H := Option.bind_eq_some_iff.mp H
  obtain ⟨t287, A50, H⟩ := H
  replace H : (if t287 = true then ((charger_Step.f a0_0 a0_1 a0_2 a0_3 a0_4 a0_5 a0_6 a0_7 a1_0 a1_1 a1_2 a1_3 a2_0 a2_1 a2_2).bind fun bt288 => ((charger_Allowed.f a0_0 a0_1 a0_2 a0_3 a0_4 a0_5 a0_6 a0_7 a1_0 a1_1 a1_2 a1_3).bind fun t294 => ((chargeparkref12_Valid.f k a0_0 a0_1 a0_2 a0_3 a0_4 a0_5 a0_6 a0_7 bt288.1 bt288.2.1 bt288.2.2.1 bt288.2.2.2.1).bind fun t295 => (if t294 ≥ 0 then (if t294 ≤ a0_4 then (if bt288.2.2.2.2 = 0 then (if t295 = true then (chargeparklaw12_ChargerValid.j0 k true bt288.2.2.2.2 a0_0 a0_1 a0_2 a0_3 a0_4 a0_5 a0_6 a0_7 a2_0 a2_1 a2_2) else (chargeparklaw12_ChargerValid.j0 k false bt288.2.2.2.2 a0_0 a0_1 a0_2 a0_3 a0_4 a0_5 a0_6 a0_7 a2_0 a2_1 a2_2)) else (chargeparklaw12_ChargerValid.j0 k (bt288.1 == 0 && (bt288.2.1 == 0 && (bt288.2.2.1 == 0 && (!bt288.2.2.2.1)))) bt288.2.2.2.2 a0_0 a0_1 a0_2 a0_3 a0_4 a0_5 a0_6 a0_7 a2_0 a2_1 a2_2)) else (chargeparklaw12_ChargerValid.j0 k false bt288.2.2.2.2 a0_0 a0_1 a0_2 a0_3 a0_4 a0_5 a0_6 a0_7 a2_0 a2_1 a2_2)) else (chargeparklaw12_ChargerValid.j0 k false bt288.2.2.2.2 a0_0 a0_1 a0_2 a0_3 a0_4 a0_5 a0_6 a0_7 a2_0 a2_1 a2_2))))) else (some true)) = some r := H
  have A5 := Aside0.mk A50
  clear A50
  by_cases c6 : t287 = true
  · subst c6
    have H1 : ((charger_Step.f a0_0 a0_1 a0_2 a0_3 a0_4 a0_5 a0_6 a0_7 a1_0 a1_1 a1_2 a1_3 a2_0 a2_1 a2_2).bind fun bt288 => ((charger_Allowed.f a0_0 a0_1 a0_2 a0_3 a0_4 a0_5 a0_6 a0_7 a1_0 a1_1 a1_2 a1_3).bind fun t294 => ((chargeparkref12_Valid.f k a0_0 a0_1 a0_2 a0_3 a0_4 a0_5 a0_6 a0_7 bt288.1 bt288.2.1 bt288.2.2.1 bt288.2.2.2.1).bind fun t295 => (if t294 ≥ 0 then (if t294 ≤ a0_4 then (if bt288.2.2.2.2 = 0 then (if t295 = true then (chargeparklaw12_ChargerValid.j0 k true bt288.2.2.2.2 a0_0 a0_1 a0_2 a0_3 a0_4 a0_5 a0_6 a0_7 a2_0 a2_1 a2_2) else (chargeparklaw12_ChargerValid.j0 k false bt288.2.2.2.2 a0_0 a0_1 a0_2 a0_3 a0_4 a0_5 a0_6 a0_7 a2_0 a2_1 a2_2)) else (chargeparklaw12_ChargerValid.j0 k (bt288.1 == 0 && (bt288.2.1 == 0 && (bt288.2.2.1 == 0 && (!bt288.2.2.2.1)))) bt288.2.2.2.2 a0_0 a0_1 a0_2 a0_3 a0_4 a0_5 a0_6 a0_7 a2_0 a2_1 a2_2)) else (chargeparklaw12_ChargerValid.j0 k false bt288.2.2.2.2 a0_0 a0_1 a0_2 a0_3 a0_4 a0_5 a0_6 a0_7 a2_0 a2_1 a2_2)) else (chargeparklaw12_ChargerValid.j0 k false bt288.2.2.2.2 a0_0 a0_1 a0_2 a0_3 a0_4 a0_5 a0_6 a0_7 a2_0 a2_1 a2_2))))) = some r := by rw [if_pos rfl] at H; exact H
    clear H
    have H := H1
    clear H1
    replace H := Option.bind_eq_some_iff.mp H
    obtain ⟨⟨t288, t289, t290, t291, t292⟩, A70, H⟩ := H
    replace H : ((charger_Allowed.f a0_0 a0_1 a0_2 a0_3 a0_4 a0_5 a0_6 a0_7 a1_0 a1_1 a1_2 a1_3).bind fun t294 => ((chargeparkref12_Valid.f k a0_0 a0_1 a0_2 a0_3 a0_4 a0_5 a0_6 a0_7 t288 t289 t290 t291).bind fun t295 => (if t294 ≥ 0 then (if t294 ≤ a0_4 then (if t292 = 0 then (if t295 = true then (chargeparklaw12_ChargerValid.j0 k true t292 a0_0 a0_1 a0_2 a0_3 a0_4 a0_5 a0_6 a0_7 a2_0 a2_1 a2_2) else (chargeparklaw12_ChargerValid.j0 k false t292 a0_0 a0_1 a0_2 a0_3 a0_4 a0_5 a0_6 a0_7 a2_0 a2_1 a2_2)) else (chargeparklaw12_ChargerValid.j0 k (t288 == 0 && (t289 == 0 && (t290 == 0 && (!t291)))) t292 a0_0 a0_1 a0_2 a0_3 a0_4 a0_5 a0_6 a0_7 a2_0 a2_1 a2_2)) else (chargeparklaw12_ChargerValid.j0 k false t292 a0_0 a0_1 a0_2 a0_3 a0_4 a0_5 a0_6 a0_7 a2_0 a2_1 a2_2)) else (chargeparklaw12_ChargerValid.j0 k false t292 a0_0 a0_1 a0_2 a0_3 a0_4 a0_5 a0_6 a0_7 a2_0 a2_1 a2_2)))) = some r := H
    have A7 := Aside0.mk A70
    clear A70
    replace H := Option.bind_eq_some_iff.mp H
    obtain ⟨t294, A80, H⟩ := H
    replace H : ((chargeparkref12_Valid.f k a0_0 a0_1 a0_2 a0_3 a0_4 a0_5 a0_6 a0_7 t288 t289 t290 t291).bind fun t295 => (if t294 ≥ 0 then (if t294 ≤ a0_4 then (if t292 = 0 then (if t295 = true then (chargeparklaw12_ChargerValid.j0 k true t292 a0_0 a0_1 a0_2 a0_3 a0_4 a0_5 a0_6 a0_7 a2_0 a2_1 a2_2) else (chargeparklaw12_ChargerValid.j0 k false t292 a0_0 a0_1 a0_2 a0_3 a0_4 a0_5 a0_6 a0_7 a2_0 a2_1 a2_2)) else (chargeparklaw12_ChargerValid.j0 k (t288 == 0 && (t289 == 0 && (t290 == 0 && (!t291)))) t292 a0_0 a0_1 a0_2 a0_3 a0_4 a0_5 a0_6 a0_7 a2_0 a2_1 a2_2)) else (chargeparklaw12_ChargerValid.j0 k false t292 a0_0 a0_1 a0_2 a0_3 a0_4 a0_5 a0_6 a0_7 a2_0 a2_1 a2_2)) else (chargeparklaw12_ChargerValid.j0 k false t292 a0_0 a0_1 a0_2 a0_3 a0_4 a0_5 a0_6 a0_7 a2_0 a2_1 a2_2))) = some r := H
    have A8 := Aside0.mk A80
    clear A80
    replace H := Option.bind_eq_some_iff.mp H
    obtain ⟨t295, A90, H⟩ := H
    replace H : (if t294 ≥ 0 then (if t294 ≤ a0_4 then (if t292 = 0 then (if t295 = true then (chargeparklaw12_ChargerValid.j0 k true t292 a0_0 a0_1 a0_2 a0_3 a0_4 a0_5 a0_6 a0_7 a2_0 a2_1 a2_2) else (chargeparklaw12_ChargerValid.j0 k false t292 a0_0 a0_1 a0_2 a0_3 a0_4 a0_5 a0_6 a0_7 a2_0 a2_1 a2_2)) else (chargeparklaw12_ChargerValid.j0 k (t288 == 0 && (t289 == 0 && (t290 == 0 && (!t291)))) t292 a0_0 a0_1 a0_2 a0_3 a0_4 a0_5 a0_6 a0_7 a2_0 a2_1 a2_2)) else (chargeparklaw12_ChargerValid.j0 k false t292 a0_0 a0_1 a0_2 a0_3 a0_4 a0_5 a0_6 a0_7 a2_0 a2_1 a2_2)) else (chargeparklaw12_ChargerValid.j0 k false t292 a0_0 a0_1 a0_2 a0_3 a0_4 a0_5 a0_6 a0_7 a2_0 a2_1 a2_2)) = some r := H
    have A9 := Aside0.mk A90
    clear A90
    have HC10 := Aside0.mk H
    clear H
    go_enter Tryd.func6, Tryd.ntmps6
    go_upto_region 8 with (first | ((with_reducible refine gate_dst (N := 3) rfl ?_); refine box_event ?hg (N := 3) ?hd (cs := #[.string a0_0, .int .i64 a0_1, .int .i64 a0_2, .int .i64 a0_3, .int .i64 a0_4, .int .i64 a0_5, .int .i64 a0_6, .int .i64 a0_7]) (t := 23) ?hr ?_; (case hd => rfl); (case hg => rfl); (case hr => first | (go_simp; done) | (go_simp; rfl)); intro gb284 hg w11 hbox hb; have n0_ := Aside0.mk (below_step (by repeat (first | (with_reducible first | exact HB.out | apply below_alloc | apply pw_below_drewN | apply below_drew1) | exact HB.out)) hb); have n1_ := Aside0.mk (hbox); have n2_ := Aside0.mk ((by rw [hg]; exact (below_size (by repeat (first | (with_reducible first | exact HB.out | apply below_alloc | apply pw_below_drewN | apply below_drew1) | exact HB.out))) : w.heap.size ≤ gb284)); have n3_ := Aside0.mk ((by rw [hg]; exact (below_size (by repeat (first | (with_reducible first | exact HB.out | apply below_alloc | apply pw_below_drewN | apply below_drew1) | exact HB.out))) : w.heap.size ≤ gb284)); clear HB; have HB := n0_; have BK284 := n1_; have GW284 := n2_; have GE284 := n3_; clear n0_ n1_ n2_ n3_; clear hb hbox hg) | ((with_reducible refine gate_dst (N := 4) rfl ?_); refine box_event ?hg (N := 4) ?hd (cs := #[.int .i64 a1_0, .int .i64 a1_1, .int .i64 a1_2, .bool a1_3]) (t := 25) ?hr ?_; (case hd => rfl); (case hg => rfl); (case hr => first | (go_simp; done) | (go_simp; rfl)); intro gb285 hg w12 hbox hb; have n0_ := Aside0.mk (blk_below (g := gb284) (o := .cells #[.string a0_0, .int .i64 a0_1, .int .i64 a0_2, .int .i64 a0_3, .int .i64 a0_4, .int .i64 a0_5, .int .i64 a0_6, .int .i64 a0_7] 23 (0, 0)) (by (with_reducible repeat (first | refine blk_drewN ?_ _ | refine blk_drew ?_ | refine blk_alloc ?_ _)); exact BK284.out) hb); have n1_ := Aside0.mk (below_step (by repeat (first | (with_reducible first | exact HB.out | apply below_alloc | apply pw_below_drewN | apply below_drew1 | refine below_set ?_ GE284.out) | exact HB.out)) hb); have n2_ := Aside0.mk (hbox); have n3_ := Aside0.mk ((by rw [hg]; exact (below_size (by repeat (first | (with_reducible first | exact HB.out | apply below_alloc | apply pw_below_drewN | apply below_drew1 | refine below_set ?_ GE284.out) | exact HB.out))) : w.heap.size ≤ gb285)); have n4_ := Aside0.mk ((by rw [hg]; exact (below_size (by repeat (first | (with_reducible first | exact HB.out | apply below_alloc | apply pw_below_drewN | apply below_drew1 | refine below_set ?_ GE284.out) | exact HB.out))) : w.heap.size ≤ gb285)); have n5_ := Aside0.mk ((by rw [hg]; exact Nat.ne_of_lt (blk_lt (g := gb284) (o := .cells #[.string a0_0, .int .i64 a0_1, .int .i64 a0_2, .int .i64 a0_3, .int .i64 a0_4, .int .i64 a0_5, .int .i64 a0_6, .int .i64 a0_7] 23 (0, 0)) (by (with_reducible repeat (first | refine blk_drewN ?_ _ | refine blk_drew ?_ | refine blk_alloc ?_ _)); exact BK284.out)) : gb284 ≠ gb285)); have n6_ := Aside0.mk ((by rw [hg]; exact Nat.ne_of_gt (blk_lt (g := gb284) (o := .cells #[.string a0_0, .int .i64 a0_1, .int .i64 a0_2, .int .i64 a0_3, .int .i64 a0_4, .int .i64 a0_5, .int .i64 a0_6, .int .i64 a0_7] 23 (0, 0)) (by (with_reducible repeat (first | refine blk_drewN ?_ _ | refine blk_drew ?_ | refine blk_alloc ?_ _)); exact BK284.out)) : gb285 ≠ gb284)); clear BK284; clear HB; have BK284 := n0_; have HB := n1_; have BK285 := n2_; have GW285 := n3_; have GE285 := n4_; have NB284_285 := n5_; have NB285_284 := n6_; clear n0_ n1_ n2_ n3_ n4_ n5_ n6_; clear hb hbox hg) | ((with_reducible refine gate_dst (N := 5) rfl ?_); refine box_event ?hg (N := 5) ?hd (cs := #[.int .i64 a2_0, .int .i64 a2_1, .int .i64 a2_2]) (t := 27) ?hr ?_; (case hd => rfl); (case hg => rfl); (case hr => first | (go_simp; done) | (go_simp; rfl)); intro gb286 hg w13 hbox hb; have n0_ := Aside0.mk (blk_below (g := gb284) (o := .cells #[.string a0_0, .int .i64 a0_1, .int .i64 a0_2, .int .i64 a0_3, .int .i64 a0_4, .int .i64 a0_5, .int .i64 a0_6, .int .i64 a0_7] 23 (0, 0)) (by (with_reducible repeat (first | refine blk_drewN ?_ _ | refine blk_drew ?_ | refine blk_alloc ?_ _)); exact BK284.out) hb); have n1_ := Aside0.mk (blk_below (g := gb285) (o := .cells #[.int .i64 a1_0, .int .i64 a1_1, .int .i64 a1_2, .bool a1_3] 25 (0, 0)) (by (with_reducible repeat (first | refine blk_drewN ?_ _ | refine blk_drew ?_ | refine blk_alloc ?_ _)); exact BK285.out) hb); have n2_ := Aside0.mk (below_step (by repeat (first | (with_reducible first | exact HB.out | apply below_alloc | apply pw_below_drewN | apply below_drew1 | refine below_set ?_ GE284.out | refine below_set ?_ GE285.out) | exact HB.out)) hb); have n3_ := Aside0.mk (hbox); have n4_ := Aside0.mk ((by rw [hg]; exact (below_size (by repeat (first | (with_reducible first | exact HB.out | apply below_alloc | apply pw_below_drewN | apply below_drew1 | refine below_set ?_ GE284.out | refine below_set ?_ GE285.out) | exact HB.out))) : w.heap.size ≤ gb286)); have n5_ := Aside0.mk ((by rw [hg]; exact (below_size (by repeat (first | (with_reducible first | exact HB.out | apply below_alloc | apply pw_below_drewN | apply below_drew1 | refine below_set ?_ GE284.out | refine below_set ?_ GE285.out) | exact HB.out))) : w.heap.size ≤ gb286)); have n6_ := Aside0.mk ((by rw [hg]; exact Nat.ne_of_lt (blk_lt (g := gb284) (o := .cells #[.string a0_0, .int .i64 a0_1, .int .i64 a0_2, .int .i64 a0_3, .int .i64 a0_4, .int .i64 a0_5, .int .i64 a0_6, .int .i64 a0_7] 23 (0, 0)) (by (with_reducible repeat (first | refine blk_drewN ?_ _ | refine blk_drew ?_ | refine blk_alloc ?_ _)); exact BK284.out)) : gb284 ≠ gb286)); have n7_ := Aside0.mk ((by rw [hg]; exact Nat.ne_of_gt (blk_lt (g := gb284) (o := .cells #[.string a0_0, .int .i64 a0_1, .int .i64 a0_2, .int .i64 a0_3, .int .i64 a0_4, .int .i64 a0_5, .int .i64 a0_6, .int .i64 a0_7] 23 (0, 0)) (by (with_reducible repeat (first | refine blk_drewN ?_ _ | refine blk_drew ?_ | refine blk_alloc ?_ _)); exact BK284.out)) : gb286 ≠ gb284)); have n8_ := Aside0.mk ((by rw [hg]; exact Nat.ne_of_lt (blk_lt (g := gb285) (o := .cells #[.int .i64 a1_0, .int .i64 a1_1, .int .i64 a1_2, .bool a1_3] 25 (0, 0)) (by (with_reducible repeat (first | refine blk_drewN ?_ _ | refine blk_drew ?_ | refine blk_alloc ?_ _)); exact BK285.out)) : gb285 ≠ gb286)); have n9_ := Aside0.mk ((by rw [hg]; exact Nat.ne_of_gt (blk_lt (g := gb285) (o := .cells #[.int .i64 a1_0, .int .i64 a1_1, .int .i64 a1_2, .bool a1_3] 25 (0, 0)) (by (with_reducible repeat (first | refine blk_drewN ?_ _ | refine blk_drew ?_ | refine blk_alloc ?_ _)); exact BK285.out)) : gb286 ≠ gb285)); clear BK284; clear BK285; clear HB; have BK284 := n0_; have BK285 := n1_; have HB := n2_; have BK286 := n3_; have GW286 := n4_; have GE286 := n5_; have NB284_286 := n6_; have NB286_284 := n7_; have NB285_286 := n8_; have NB286_285 := n9_; clear n0_ n1_ n2_ n3_ n4_ n5_ n6_ n7_ n8_ n9_; clear hb hbox hg) | ((with_reducible refine gate_callee (f := 10) rfl ?_); refine goesL_ (some 14) rfl rfl Tryd.func10 (by kernel_rfl) rfl #[] rfl (by (try simp only [List.map_toArray, List.map_cons, List.map_nil]); first | done | rfl | (simp only [List.length_drop, List.length_take]; rfl)) ?_; (with_reducible refine (chargeparklaw12_head_c.calls  true _ (hG.below (by repeat (first | (with_reducible first | exact HB.out | apply below_alloc | apply pw_below_drewN | apply below_drew1) | exact HB.out | (refine Below.setCell ?_ (Aside0.out (by assumption)) _)))) A4.out).mono ?_); rintro e w14 ⟨rfl, hb⟩; refine ⟨_, rfl, ?_⟩; have n0_ := Aside0.mk (blk_below (g := gb284) (o := .cells #[.string a0_0, .int .i64 a0_1, .int .i64 a0_2, .int .i64 a0_3, .int .i64 a0_4, .int .i64 a0_5, .int .i64 a0_6, .int .i64 a0_7] 23 (0, 0)) (by (with_reducible repeat (first | refine blk_drewN ?_ _ | refine blk_drew ?_ | refine blk_alloc ?_ _)); exact BK284.out) hb); have n1_ := Aside0.mk (blk_below (g := gb285) (o := .cells #[.int .i64 a1_0, .int .i64 a1_1, .int .i64 a1_2, .bool a1_3] 25 (0, 0)) (by (with_reducible repeat (first | refine blk_drewN ?_ _ | refine blk_drew ?_ | refine blk_alloc ?_ _)); exact BK285.out) hb); have n2_ := Aside0.mk (blk_below (g := gb286) (o := .cells #[.int .i64 a2_0, .int .i64 a2_1, .int .i64 a2_2] 27 (0, 0)) (by (with_reducible repeat (first | refine blk_drewN ?_ _ | refine blk_drew ?_ | refine blk_alloc ?_ _)); exact BK286.out) hb); have n3_ := Aside0.mk (below_step (by repeat (first | (with_reducible first | exact HB.out | apply below_alloc | apply pw_below_drewN | apply below_drew1 | refine below_set ?_ GE284.out | refine below_set ?_ GE285.out | refine below_set ?_ GE286.out) | exact HB.out)) hb); clear BK284; clear BK285; clear BK286; clear HB; have BK284 := n0_; have BK285 := n1_; have BK286 := n2_; have HB := n3_; clear n0_ n1_ n2_ n3_; (try clear hb); (try clear hb2); (try clear hk); (try clear hi); have hnb15 := NB284_285.out; have hnc15 := NB285_284.out; have hnb16 := NB284_286.out; have hnc16 := NB286_284.out; have hcz17_0 : w14.cell? ⟨gb284, 0, none⟩ = some (.string a0_0) := (blk_cell BK284.out 0).trans rfl; have hcz17_1 : w14.cell? ⟨gb284, 1, none⟩ = some (.int .i64 a0_1) := (blk_cell BK284.out 1).trans rfl; have hcz17_2 : w14.cell? ⟨gb284, 2, none⟩ = some (.int .i64 a0_2) := (blk_cell BK284.out 2).trans rfl; have hcz17_3 : w14.cell? ⟨gb284, 3, none⟩ = some (.int .i64 a0_3) := (blk_cell BK284.out 3).trans rfl; have hcz17_4 : w14.cell? ⟨gb284, 4, none⟩ = some (.int .i64 a0_4) := (blk_cell BK284.out 4).trans rfl; have hcz17_5 : w14.cell? ⟨gb284, 5, none⟩ = some (.int .i64 a0_5) := (blk_cell BK284.out 5).trans rfl; have hcz17_6 : w14.cell? ⟨gb284, 6, none⟩ = some (.int .i64 a0_6) := (blk_cell BK284.out 6).trans rfl; have hcz17_7 : w14.cell? ⟨gb284, 7, none⟩ = some (.int .i64 a0_7) := (blk_cell BK284.out 7).trans rfl; have hfz17_0 := blk_frozen BK284.out 0; have hfz17_1 := blk_frozen BK284.out 1; have hfz17_2 := blk_frozen BK284.out 2; have hfz17_3 := blk_frozen BK284.out 3; have hfz17_4 := blk_frozen BK284.out 4; have hfz17_5 := blk_frozen BK284.out 5; have hfz17_6 := blk_frozen BK284.out 6; have hfz17_7 := blk_frozen BK284.out 7; have hnb18 := NB285_286.out; have hnc18 := NB286_285.out; have hcz19_0 : w14.cell? ⟨gb285, 0, none⟩ = some (.int .i64 a1_0) := (blk_cell BK285.out 0).trans rfl; have hcz19_1 : w14.cell? ⟨gb285, 1, none⟩ = some (.int .i64 a1_1) := (blk_cell BK285.out 1).trans rfl; have hcz19_2 : w14.cell? ⟨gb285, 2, none⟩ = some (.int .i64 a1_2) := (blk_cell BK285.out 2).trans rfl; have hcz19_3 : w14.cell? ⟨gb285, 3, none⟩ = some (.bool a1_3) := (blk_cell BK285.out 3).trans rfl; have hfz19_0 := blk_frozen BK285.out 0; have hfz19_1 := blk_frozen BK285.out 1; have hfz19_2 := blk_frozen BK285.out 2; have hfz19_3 := blk_frozen BK285.out 3) | ((with_reducible refine gate_callee (f := 14) rfl ?_); refine goesL_ (some 17) rfl rfl Tryd.func14 (by kernel_rfl) rfl #[.agg #[.string a0_0, .int .i64 a0_1, .int .i64 a0_2, .int .i64 a0_3, .int .i64 a0_4, .int .i64 a0_5, .int .i64 a0_6, .int .i64 a0_7], .agg #[.int .i64 a1_0, .int .i64 a1_1, .int .i64 a1_2, .bool a1_3]] rfl (by (try simp only [List.map_toArray, List.map_cons, List.map_nil]); first | done | rfl | (simp only [List.length_drop, List.length_take]; rfl)) ?_; (with_reducible refine (chargeparkref12_Valid.calls k a0_0 a0_1 a0_2 a0_3 a0_4 a0_5 a0_6 a0_7 a1_0 a1_1 a1_2 a1_3 true _ A5.out).mono ?_); rintro e w20 ⟨rfl, hb⟩; refine ⟨_, rfl, ?_⟩; have n0_ := Aside0.mk (blk_below (g := gb284) (o := .cells #[.string a0_0, .int .i64 a0_1, .int .i64 a0_2, .int .i64 a0_3, .int .i64 a0_4, .int .i64 a0_5, .int .i64 a0_6, .int .i64 a0_7] 23 (0, 0)) (by (with_reducible repeat (first | refine blk_drewN ?_ _ | refine blk_drew ?_ | refine blk_alloc ?_ _)); exact BK284.out) hb); have n1_ := Aside0.mk (blk_below (g := gb285) (o := .cells #[.int .i64 a1_0, .int .i64 a1_1, .int .i64 a1_2, .bool a1_3] 25 (0, 0)) (by (with_reducible repeat (first | refine blk_drewN ?_ _ | refine blk_drew ?_ | refine blk_alloc ?_ _)); exact BK285.out) hb); have n2_ := Aside0.mk (blk_below (g := gb286) (o := .cells #[.int .i64 a2_0, .int .i64 a2_1, .int .i64 a2_2] 27 (0, 0)) (by (with_reducible repeat (first | refine blk_drewN ?_ _ | refine blk_drew ?_ | refine blk_alloc ?_ _)); exact BK286.out) hb); have n3_ := Aside0.mk (below_step (by repeat (first | (with_reducible first | exact HB.out | apply below_alloc | apply pw_below_drewN | apply below_drew1 | refine below_set ?_ GE284.out | refine below_set ?_ GE285.out | refine below_set ?_ GE286.out) | exact HB.out)) hb); clear BK284; clear BK285; clear BK286; clear HB; have BK284 := n0_; have BK285 := n1_; have BK286 := n2_; have HB := n3_; clear n0_ n1_ n2_ n3_; (try clear hb); (try clear hb2); (try clear hk); (try clear hi); have hcz21_0 : w20.cell? ⟨gb284, 0, none⟩ = some (.string a0_0) := (blk_cell BK284.out 0).trans rfl; have hcz21_1 : w20.cell? ⟨gb284, 1, none⟩ = some (.int .i64 a0_1) := (blk_cell BK284.out 1).trans rfl; have hcz21_2 : w20.cell? ⟨gb284, 2, none⟩ = some (.int .i64 a0_2) := (blk_cell BK284.out 2).trans rfl; have hcz21_3 : w20.cell? ⟨gb284, 3, none⟩ = some (.int .i64 a0_3) := (blk_cell BK284.out 3).trans rfl; have hcz21_4 : w20.cell? ⟨gb284, 4, none⟩ = some (.int .i64 a0_4) := (blk_cell BK284.out 4).trans rfl; have hcz21_5 : w20.cell? ⟨gb284, 5, none⟩ = some (.int .i64 a0_5) := (blk_cell BK284.out 5).trans rfl; have hcz21_6 : w20.cell? ⟨gb284, 6, none⟩ = some (.int .i64 a0_6) := (blk_cell BK284.out 6).trans rfl; have hcz21_7 : w20.cell? ⟨gb284, 7, none⟩ = some (.int .i64 a0_7) := (blk_cell BK284.out 7).trans rfl; have hfz21_0 := blk_frozen BK284.out 0; have hfz21_1 := blk_frozen BK284.out 1; have hfz21_2 := blk_frozen BK284.out 2; have hfz21_3 := blk_frozen BK284.out 3; have hfz21_4 := blk_frozen BK284.out 4; have hfz21_5 := blk_frozen BK284.out 5; have hfz21_6 := blk_frozen BK284.out 6; have hfz21_7 := blk_frozen BK284.out 7; have hcz22_0 : w20.cell? ⟨gb285, 0, none⟩ = some (.int .i64 a1_0) := (blk_cell BK285.out 0).trans rfl; have hcz22_1 : w20.cell? ⟨gb285, 1, none⟩ = some (.int .i64 a1_1) := (blk_cell BK285.out 1).trans rfl; have hcz22_2 : w20.cell? ⟨gb285, 2, none⟩ = some (.int .i64 a1_2) := (blk_cell BK285.out 2).trans rfl; have hcz22_3 : w20.cell? ⟨gb285, 3, none⟩ = some (.bool a1_3) := (blk_cell BK285.out 3).trans rfl; have hfz22_0 := blk_frozen BK285.out 0; have hfz22_1 := blk_frozen BK285.out 1; have hfz22_2 := blk_frozen BK285.out 2; have hfz22_3 := blk_frozen BK285.out 3; have hcz23_0 : w20.cell? ⟨gb286, 0, none⟩ = some (.int .i64 a2_0) := (blk_cell BK286.out 0).trans rfl; have hcz23_1 : w20.cell? ⟨gb286, 1, none⟩ = some (.int .i64 a2_1) := (blk_cell BK286.out 1).trans rfl; have hcz23_2 : w20.cell? ⟨gb286, 2, none⟩ = some (.int .i64 a2_2) := (blk_cell BK286.out 2).trans rfl; have hfz23_0 := blk_frozen BK286.out 0; have hfz23_1 := blk_frozen BK286.out 1; have hfz23_2 := blk_frozen BK286.out 2) | ((with_reducible refine gate_callee (f := 11) rfl ?_); refine goesL_ (some 25) rfl rfl Tryd.func11 (by kernel_rfl) rfl #[.agg #[.string a0_0, .int .i64 a0_1, .int .i64 a0_2, .int .i64 a0_3, .int .i64 a0_4, .int .i64 a0_5, .int .i64 a0_6, .int .i64 a0_7], .agg #[.int .i64 a1_0, .int .i64 a1_1, .int .i64 a1_2, .bool a1_3], .agg #[.int .i64 a2_0, .int .i64 a2_1, .int .i64 a2_2]] rfl (by (try simp only [List.map_toArray, List.map_cons, List.map_nil]); first | done | rfl | (simp only [List.length_drop, List.length_take]; rfl)) ?_; (with_reducible refine (charger_Step.calls a0_0 a0_1 a0_2 a0_3 a0_4 a0_5 a0_6 a0_7 a1_0 a1_1 a1_2 a1_3 a2_0 a2_1 a2_2 t288 t289 t290 t291 t292 _ (hG.below (by repeat (first | (with_reducible first | exact HB.out | apply below_alloc | apply pw_below_drewN | apply below_drew1) | exact HB.out | (refine Below.setCell ?_ (Aside0.out (by assumption)) _)))) A7.out).mono ?_); rintro e w24 ⟨rfl, hb⟩; refine ⟨_, rfl, ?_⟩; have n0_ := Aside0.mk (blk_below (g := gb284) (o := .cells #[.string a0_0, .int .i64 a0_1, .int .i64 a0_2, .int .i64 a0_3, .int .i64 a0_4, .int .i64 a0_5, .int .i64 a0_6, .int .i64 a0_7] 23 (0, 0)) (by (with_reducible repeat (first | refine blk_drewN ?_ _ | refine blk_drew ?_ | refine blk_alloc ?_ _)); exact BK284.out) hb); have n1_ := Aside0.mk (blk_below (g := gb285) (o := .cells #[.int .i64 a1_0, .int .i64 a1_1, .int .i64 a1_2, .bool a1_3] 25 (0, 0)) (by (with_reducible repeat (first | refine blk_drewN ?_ _ | refine blk_drew ?_ | refine blk_alloc ?_ _)); exact BK285.out) hb); have n2_ := Aside0.mk (blk_below (g := gb286) (o := .cells #[.int .i64 a2_0, .int .i64 a2_1, .int .i64 a2_2] 27 (0, 0)) (by (with_reducible repeat (first | refine blk_drewN ?_ _ | refine blk_drew ?_ | refine blk_alloc ?_ _)); exact BK286.out) hb); have n3_ := Aside0.mk (below_step (by repeat (first | (with_reducible first | exact HB.out | apply below_alloc | apply pw_below_drewN | apply below_drew1 | refine below_set ?_ GE284.out | refine below_set ?_ GE285.out | refine below_set ?_ GE286.out) | exact HB.out)) hb); clear BK284; clear BK285; clear BK286; clear HB; have BK284 := n0_; have BK285 := n1_; have BK286 := n2_; have HB := n3_; clear n0_ n1_ n2_ n3_; (try clear hb); (try clear hb2); (try clear hk); (try clear hi)) | ((with_reducible refine gate_dst (N := 9) rfl ?_); refine box_event ?hg (N := 9) ?hd (cs := #[.int .i64 0, .int .i64 0, .int .i64 0, .bool false]) (t := 25) ?hr ?_; (case hd => rfl); (case hg => rfl); (case hr => first | (go_simp; done) | (go_simp; rfl)); intro gb293 hg w25 hbox hb; have n0_ := Aside0.mk (blk_below (g := gb284) (o := .cells #[.string a0_0, .int .i64 a0_1, .int .i64 a0_2, .int .i64 a0_3, .int .i64 a0_4, .int .i64 a0_5, .int .i64 a0_6, .int .i64 a0_7] 23 (0, 0)) (by (with_reducible repeat (first | refine blk_drewN ?_ _ | refine blk_drew ?_ | refine blk_alloc ?_ _)); exact BK284.out) hb); have n1_ := Aside0.mk (blk_below (g := gb285) (o := .cells #[.int .i64 a1_0, .int .i64 a1_1, .int .i64 a1_2, .bool a1_3] 25 (0, 0)) (by (with_reducible repeat (first | refine blk_drewN ?_ _ | refine blk_drew ?_ | refine blk_alloc ?_ _)); exact BK285.out) hb); have n2_ := Aside0.mk (blk_below (g := gb286) (o := .cells #[.int .i64 a2_0, .int .i64 a2_1, .int .i64 a2_2] 27 (0, 0)) (by (with_reducible repeat (first | refine blk_drewN ?_ _ | refine blk_drew ?_ | refine blk_alloc ?_ _)); exact BK286.out) hb); have n3_ := Aside0.mk (below_step (by repeat (first | (with_reducible first | exact HB.out | apply below_alloc | apply pw_below_drewN | apply below_drew1 | refine below_set ?_ GE284.out | refine below_set ?_ GE285.out | refine below_set ?_ GE286.out) | exact HB.out)) hb); have n4_ := Aside0.mk (hbox); have n5_ := Aside0.mk ((by rw [hg]; exact (below_size (by repeat (first | (with_reducible first | exact HB.out | apply below_alloc | apply pw_below_drewN | apply below_drew1 | refine below_set ?_ GE284.out | refine below_set ?_ GE285.out | refine below_set ?_ GE286.out) | exact HB.out))) : w.heap.size ≤ gb293)); have n6_ := Aside0.mk ((by rw [hg]; exact (below_size (by repeat (first | (with_reducible first | exact HB.out | apply below_alloc | apply pw_below_drewN | apply below_drew1 | refine below_set ?_ GE284.out | refine below_set ?_ GE285.out | refine below_set ?_ GE286.out) | exact HB.out))) : w.heap.size ≤ gb293)); have n7_ := Aside0.mk ((by rw [hg]; exact Nat.ne_of_lt (blk_lt (g := gb284) (o := .cells #[.string a0_0, .int .i64 a0_1, .int .i64 a0_2, .int .i64 a0_3, .int .i64 a0_4, .int .i64 a0_5, .int .i64 a0_6, .int .i64 a0_7] 23 (0, 0)) (by (with_reducible repeat (first | refine blk_drewN ?_ _ | refine blk_drew ?_ | refine blk_alloc ?_ _)); exact BK284.out)) : gb284 ≠ gb293)); have n8_ := Aside0.mk ((by rw [hg]; exact Nat.ne_of_gt (blk_lt (g := gb284) (o := .cells #[.string a0_0, .int .i64 a0_1, .int .i64 a0_2, .int .i64 a0_3, .int .i64 a0_4, .int .i64 a0_5, .int .i64 a0_6, .int .i64 a0_7] 23 (0, 0)) (by (with_reducible repeat (first | refine blk_drewN ?_ _ | refine blk_drew ?_ | refine blk_alloc ?_ _)); exact BK284.out)) : gb293 ≠ gb284)); have n9_ := Aside0.mk ((by rw [hg]; exact Nat.ne_of_lt (blk_lt (g := gb285) (o := .cells #[.int .i64 a1_0, .int .i64 a1_1, .int .i64 a1_2, .bool a1_3] 25 (0, 0)) (by (with_reducible repeat (first | refine blk_drewN ?_ _ | refine blk_drew ?_ | refine blk_alloc ?_ _)); exact BK285.out)) : gb285 ≠ gb293)); have n10_ := Aside0.mk ((by rw [hg]; exact Nat.ne_of_gt (blk_lt (g := gb285) (o := .cells #[.int .i64 a1_0, .int .i64 a1_1, .int .i64 a1_2, .bool a1_3] 25 (0, 0)) (by (with_reducible repeat (first | refine blk_drewN ?_ _ | refine blk_drew ?_ | refine blk_alloc ?_ _)); exact BK285.out)) : gb293 ≠ gb285)); have n11_ := Aside0.mk ((by rw [hg]; exact Nat.ne_of_lt (blk_lt (g := gb286) (o := .cells #[.int .i64 a2_0, .int .i64 a2_1, .int .i64 a2_2] 27 (0, 0)) (by (with_reducible repeat (first | refine blk_drewN ?_ _ | refine blk_drew ?_ | refine blk_alloc ?_ _)); exact BK286.out)) : gb286 ≠ gb293)); have n12_ := Aside0.mk ((by rw [hg]; exact Nat.ne_of_gt (blk_lt (g := gb286) (o := .cells #[.int .i64 a2_0, .int .i64 a2_1, .int .i64 a2_2] 27 (0, 0)) (by (with_reducible repeat (first | refine blk_drewN ?_ _ | refine blk_drew ?_ | refine blk_alloc ?_ _)); exact BK286.out)) : gb293 ≠ gb286)); clear BK284; clear BK285; clear BK286; clear HB; have BK284 := n0_; have BK285 := n1_; have BK286 := n2_; have HB := n3_; have BK293 := n4_; have GW293 := n5_; have GE293 := n6_; have NB284_293 := n7_; have NB293_284 := n8_; have NB285_293 := n9_; have NB293_285 := n10_; have NB286_293 := n11_; have NB293_286 := n12_; clear n0_ n1_ n2_ n3_ n4_ n5_ n6_ n7_ n8_ n9_ n10_ n11_ n12_; clear hb hbox hg; have hnb26 := NB293_284.out; have hnc26 := NB284_293.out; have hnb27 := NB293_285.out; have hnc27 := NB285_293.out; have hnb28 := NB293_286.out; have hnc28 := NB286_293.out; have hcz29_0 : w25.cell? ⟨gb293, 0, none⟩ = some (.int .i64 0) := (blk_cell BK293.out 0).trans rfl; have hcz29_1 : w25.cell? ⟨gb293, 1, none⟩ = some (.int .i64 0) := (blk_cell BK293.out 1).trans rfl; have hcz29_2 : w25.cell? ⟨gb293, 2, none⟩ = some (.int .i64 0) := (blk_cell BK293.out 2).trans rfl; have hcz29_3 : w25.cell? ⟨gb293, 3, none⟩ = some (.bool false) := (blk_cell BK293.out 3).trans rfl; have hfz29_0 := blk_frozen BK293.out 0; have hfz29_1 := blk_frozen BK293.out 1; have hfz29_2 := blk_frozen BK293.out 2; have hfz29_3 := blk_frozen BK293.out 3; have hcz30_0 : w25.cell? ⟨gb284, 0, none⟩ = some (.string a0_0) := (blk_cell BK284.out 0).trans rfl; have hcz30_1 : w25.cell? ⟨gb284, 1, none⟩ = some (.int .i64 a0_1) := (blk_cell BK284.out 1).trans rfl; have hcz30_2 : w25.cell? ⟨gb284, 2, none⟩ = some (.int .i64 a0_2) := (blk_cell BK284.out 2).trans rfl; have hcz30_3 : w25.cell? ⟨gb284, 3, none⟩ = some (.int .i64 a0_3) := (blk_cell BK284.out 3).trans rfl; have hcz30_4 : w25.cell? ⟨gb284, 4, none⟩ = some (.int .i64 a0_4) := (blk_cell BK284.out 4).trans rfl; have hcz30_5 : w25.cell? ⟨gb284, 5, none⟩ = some (.int .i64 a0_5) := (blk_cell BK284.out 5).trans rfl; have hcz30_6 : w25.cell? ⟨gb284, 6, none⟩ = some (.int .i64 a0_6) := (blk_cell BK284.out 6).trans rfl; have hcz30_7 : w25.cell? ⟨gb284, 7, none⟩ = some (.int .i64 a0_7) := (blk_cell BK284.out 7).trans rfl; have hfz30_0 := blk_frozen BK284.out 0; have hfz30_1 := blk_frozen BK284.out 1; have hfz30_2 := blk_frozen BK284.out 2; have hfz30_3 := blk_frozen BK284.out 3; have hfz30_4 := blk_frozen BK284.out 4; have hfz30_5 := blk_frozen BK284.out 5; have hfz30_6 := blk_frozen BK284.out 6; have hfz30_7 := blk_frozen BK284.out 7; have hcz31_0 : w25.cell? ⟨gb285, 0, none⟩ = some (.int .i64 a1_0) := (blk_cell BK285.out 0).trans rfl; have hcz31_1 : w25.cell? ⟨gb285, 1, none⟩ = some (.int .i64 a1_1) := (blk_cell BK285.out 1).trans rfl; have hcz31_2 : w25.cell? ⟨gb285, 2, none⟩ = some (.int .i64 a1_2) := (blk_cell BK285.out 2).trans rfl; have hcz31_3 : w25.cell? ⟨gb285, 3, none⟩ = some (.bool a1_3) := (blk_cell BK285.out 3).trans rfl; have hfz31_0 := blk_frozen BK285.out 0; have hfz31_1 := blk_frozen BK285.out 1; have hfz31_2 := blk_frozen BK285.out 2; have hfz31_3 := blk_frozen BK285.out 3) | ((with_reducible refine gate_callee (f := 15) rfl ?_); refine goesL_ (some 30) rfl rfl Tryd.func15 (by kernel_rfl) rfl #[.agg #[.string a0_0, .int .i64 a0_1, .int .i64 a0_2, .int .i64 a0_3, .int .i64 a0_4, .int .i64 a0_5, .int .i64 a0_6, .int .i64 a0_7], .agg #[.int .i64 a1_0, .int .i64 a1_1, .int .i64 a1_2, .bool a1_3]] rfl (by (try simp only [List.map_toArray, List.map_cons, List.map_nil]); first | done | rfl | (simp only [List.length_drop, List.length_take]; rfl)) ?_; (with_reducible refine (charger_Allowed.calls a0_0 a0_1 a0_2 a0_3 a0_4 a0_5 a0_6 a0_7 a1_0 a1_1 a1_2 a1_3 t294 _ A8.out).mono ?_); rintro e w32 ⟨rfl, hb⟩; refine ⟨_, rfl, ?_⟩; have n0_ := Aside0.mk (blk_below (g := gb284) (o := .cells #[.string a0_0, .int .i64 a0_1, .int .i64 a0_2, .int .i64 a0_3, .int .i64 a0_4, .int .i64 a0_5, .int .i64 a0_6, .int .i64 a0_7] 23 (0, 0)) (by (with_reducible repeat (first | refine blk_drewN ?_ _ | refine blk_drew ?_ | refine blk_alloc ?_ _)); refine blk_far ?_ NB284_293.out _; (with_reducible repeat (first | refine blk_drewN ?_ _ | refine blk_drew ?_ | refine blk_alloc ?_ _)); refine blk_far ?_ NB284_293.out _; (with_reducible repeat (first | refine blk_drewN ?_ _ | refine blk_drew ?_ | refine blk_alloc ?_ _)); refine blk_far ?_ NB284_293.out _; (with_reducible repeat (first | refine blk_drewN ?_ _ | refine blk_drew ?_ | refine blk_alloc ?_ _)); refine blk_far ?_ NB284_293.out _; (with_reducible repeat (first | refine blk_drewN ?_ _ | refine blk_drew ?_ | refine blk_alloc ?_ _)); exact BK284.out) hb); have n1_ := Aside0.mk (blk_below (g := gb285) (o := .cells #[.int .i64 a1_0, .int .i64 a1_1, .int .i64 a1_2, .bool a1_3] 25 (0, 0)) (by (with_reducible repeat (first | refine blk_drewN ?_ _ | refine blk_drew ?_ | refine blk_alloc ?_ _)); refine blk_far ?_ NB285_293.out _; (with_reducible repeat (first | refine blk_drewN ?_ _ | refine blk_drew ?_ | refine blk_alloc ?_ _)); refine blk_far ?_ NB285_293.out _; (with_reducible repeat (first | refine blk_drewN ?_ _ | refine blk_drew ?_ | refine blk_alloc ?_ _)); refine blk_far ?_ NB285_293.out _; (with_reducible repeat (first | refine blk_drewN ?_ _ | refine blk_drew ?_ | refine blk_alloc ?_ _)); refine blk_far ?_ NB285_293.out _; (with_reducible repeat (first | refine blk_drewN ?_ _ | refine blk_drew ?_ | refine blk_alloc ?_ _)); exact BK285.out) hb); have n2_ := Aside0.mk (blk_below (g := gb286) (o := .cells #[.int .i64 a2_0, .int .i64 a2_1, .int .i64 a2_2] 27 (0, 0)) (by (with_reducible repeat (first | refine blk_drewN ?_ _ | refine blk_drew ?_ | refine blk_alloc ?_ _)); refine blk_far ?_ NB286_293.out _; (with_reducible repeat (first | refine blk_drewN ?_ _ | refine blk_drew ?_ | refine blk_alloc ?_ _)); refine blk_far ?_ NB286_293.out _; (with_reducible repeat (first | refine blk_drewN ?_ _ | refine blk_drew ?_ | refine blk_alloc ?_ _)); refine blk_far ?_ NB286_293.out _; (with_reducible repeat (first | refine blk_drewN ?_ _ | refine blk_drew ?_ | refine blk_alloc ?_ _)); refine blk_far ?_ NB286_293.out _; (with_reducible repeat (first | refine blk_drewN ?_ _ | refine blk_drew ?_ | refine blk_alloc ?_ _)); exact BK286.out) hb); have n3_ := Aside0.mk (blk_below (g := gb293) (o := .cells #[.int .i64 t288, .int .i64 t289, .int .i64 t290, .bool t291] 25 (0, 0)) (by (with_reducible repeat (first | refine blk_drewN ?_ _ | refine blk_drew ?_ | refine blk_alloc ?_ _)); refine blk_put (cs := #[.int .i64 t288, .int .i64 t289, .int .i64 t290, .bool false]) ?_ 3 _ rfl; (with_reducible repeat (first | refine blk_drewN ?_ _ | refine blk_drew ?_ | refine blk_alloc ?_ _)); refine blk_put (cs := #[.int .i64 t288, .int .i64 t289, .int .i64 0, .bool false]) ?_ 2 _ rfl; (with_reducible repeat (first | refine blk_drewN ?_ _ | refine blk_drew ?_ | refine blk_alloc ?_ _)); refine blk_put (cs := #[.int .i64 t288, .int .i64 0, .int .i64 0, .bool false]) ?_ 1 _ rfl; (with_reducible repeat (first | refine blk_drewN ?_ _ | refine blk_drew ?_ | refine blk_alloc ?_ _)); refine blk_put (cs := #[.int .i64 0, .int .i64 0, .int .i64 0, .bool false]) ?_ 0 _ rfl; (with_reducible repeat (first | refine blk_drewN ?_ _ | refine blk_drew ?_ | refine blk_alloc ?_ _)); exact BK293.out) hb); have n4_ := Aside0.mk (below_step (by repeat (first | (with_reducible first | exact HB.out | apply below_alloc | apply pw_below_drewN | apply below_drew1 | refine below_set ?_ GE284.out | refine below_set ?_ GE285.out | refine below_set ?_ GE286.out | refine below_set ?_ GE293.out) | exact HB.out)) hb); clear BK284; clear BK285; clear BK286; clear BK293; clear HB; have BK284 := n0_; have BK285 := n1_; have BK286 := n2_; have BK293 := n3_; have HB := n4_; clear n0_ n1_ n2_ n3_ n4_; (try clear hb); (try clear hb2); (try clear hk); (try clear hi); have hcz33_0 : w32.cell? ⟨gb284, 0, none⟩ = some (.string a0_0) := (blk_cell BK284.out 0).trans rfl; have hcz33_1 : w32.cell? ⟨gb284, 1, none⟩ = some (.int .i64 a0_1) := (blk_cell BK284.out 1).trans rfl; have hcz33_2 : w32.cell? ⟨gb284, 2, none⟩ = some (.int .i64 a0_2) := (blk_cell BK284.out 2).trans rfl; have hcz33_3 : w32.cell? ⟨gb284, 3, none⟩ = some (.int .i64 a0_3) := (blk_cell BK284.out 3).trans rfl; have hcz33_4 : w32.cell? ⟨gb284, 4, none⟩ = some (.int .i64 a0_4) := (blk_cell BK284.out 4).trans rfl; have hcz33_5 : w32.cell? ⟨gb284, 5, none⟩ = some (.int .i64 a0_5) := (blk_cell BK284.out 5).trans rfl; have hcz33_6 : w32.cell? ⟨gb284, 6, none⟩ = some (.int .i64 a0_6) := (blk_cell BK284.out 6).trans rfl; have hcz33_7 : w32.cell? ⟨gb284, 7, none⟩ = some (.int .i64 a0_7) := (blk_cell BK284.out 7).trans rfl; have hfz33_0 := blk_frozen BK284.out 0; have hfz33_1 := blk_frozen BK284.out 1; have hfz33_2 := blk_frozen BK284.out 2; have hfz33_3 := blk_frozen BK284.out 3; have hfz33_4 := blk_frozen BK284.out 4; have hfz33_5 := blk_frozen BK284.out 5; have hfz33_6 := blk_frozen BK284.out 6; have hfz33_7 := blk_frozen BK284.out 7; have hcz34_0 : w32.cell? ⟨gb293, 0, none⟩ = some (.int .i64 t288) := (blk_cell BK293.out 0).trans rfl; have hcz34_1 : w32.cell? ⟨gb293, 1, none⟩ = some (.int .i64 t289) := (blk_cell BK293.out 1).trans rfl; have hcz34_2 : w32.cell? ⟨gb293, 2, none⟩ = some (.int .i64 t290) := (blk_cell BK293.out 2).trans rfl; have hcz34_3 : w32.cell? ⟨gb293, 3, none⟩ = some (.bool t291) := (blk_cell BK293.out 3).trans rfl; have hfz34_0 := blk_frozen BK293.out 0; have hfz34_1 := blk_frozen BK293.out 1; have hfz34_2 := blk_frozen BK293.out 2; have hfz34_3 := blk_frozen BK293.out 3) | ((with_reducible refine gate_callee (f := 14) rfl ?_); refine goesL_ (some 33) rfl rfl Tryd.func14 (by kernel_rfl) rfl #[.agg #[.string a0_0, .int .i64 a0_1, .int .i64 a0_2, .int .i64 a0_3, .int .i64 a0_4, .int .i64 a0_5, .int .i64 a0_6, .int .i64 a0_7], .agg #[.int .i64 t288, .int .i64 t289, .int .i64 t290, .bool t291]] rfl (by (try simp only [List.map_toArray, List.map_cons, List.map_nil]); first | done | rfl | (simp only [List.length_drop, List.length_take]; rfl)) ?_; (with_reducible refine (chargeparkref12_Valid.calls k a0_0 a0_1 a0_2 a0_3 a0_4 a0_5 a0_6 a0_7 t288 t289 t290 t291 t295 _ A9.out).mono ?_); rintro e w35 ⟨rfl, hb⟩; refine ⟨_, rfl, ?_⟩; have n0_ := Aside0.mk (blk_below (g := gb284) (o := .cells #[.string a0_0, .int .i64 a0_1, .int .i64 a0_2, .int .i64 a0_3, .int .i64 a0_4, .int .i64 a0_5, .int .i64 a0_6, .int .i64 a0_7] 23 (0, 0)) (by (with_reducible repeat (first | refine blk_drewN ?_ _ | refine blk_drew ?_ | refine blk_alloc ?_ _)); exact BK284.out) hb); have n1_ := Aside0.mk (blk_below (g := gb285) (o := .cells #[.int .i64 a1_0, .int .i64 a1_1, .int .i64 a1_2, .bool a1_3] 25 (0, 0)) (by (with_reducible repeat (first | refine blk_drewN ?_ _ | refine blk_drew ?_ | refine blk_alloc ?_ _)); exact BK285.out) hb); have n2_ := Aside0.mk (blk_below (g := gb286) (o := .cells #[.int .i64 a2_0, .int .i64 a2_1, .int .i64 a2_2] 27 (0, 0)) (by (with_reducible repeat (first | refine blk_drewN ?_ _ | refine blk_drew ?_ | refine blk_alloc ?_ _)); exact BK286.out) hb); have n3_ := Aside0.mk (blk_below (g := gb293) (o := .cells #[.int .i64 t288, .int .i64 t289, .int .i64 t290, .bool t291] 25 (0, 0)) (by (with_reducible repeat (first | refine blk_drewN ?_ _ | refine blk_drew ?_ | refine blk_alloc ?_ _)); exact BK293.out) hb); have n4_ := Aside0.mk (below_step (by repeat (first | (with_reducible first | exact HB.out | apply below_alloc | apply pw_below_drewN | apply below_drew1 | refine below_set ?_ GE284.out | refine below_set ?_ GE285.out | refine below_set ?_ GE286.out | refine below_set ?_ GE293.out) | exact HB.out)) hb); clear BK284; clear BK285; clear BK286; clear BK293; clear HB; have BK284 := n0_; have BK285 := n1_; have BK286 := n2_; have BK293 := n3_; have HB := n4_; clear n0_ n1_ n2_ n3_ n4_; (try clear hb); (try clear hb2); (try clear hk); (try clear hi)))
    (try simp only [Act.put, List.setIfInBounds_toArray, List.set_cons_zero, List.set_cons_succ])
    go_cut [7] (fun v7 wc => ∃ (kq : Nat) (x7_9 : Bool), v7 = .bool x7_9 ∧ Aside0 (chargeparklaw12_ChargerValid.j0 kq x7_9 t292 a0_0 a0_1 a0_2 a0_3 a0_4 a0_5 a0_6 a0_7 a2_0 a2_1 a2_2 = some r) ∧ Aside0 (kq ≤ k) ∧ Aside0 (wc.heap[gb284]? = some (.cells #[.string a0_0, .int .i64 a0_1, .int .i64 a0_2, .int .i64 a0_3, .int .i64 a0_4, .int .i64 a0_5, .int .i64 a0_6, .int .i64 a0_7] 23 (0, 0))) ∧ Aside0 (wc.heap[gb285]? = some (.cells #[.int .i64 a1_0, .int .i64 a1_1, .int .i64 a1_2, .bool a1_3] 25 (0, 0))) ∧ Aside0 (wc.heap[gb286]? = some (.cells #[.int .i64 a2_0, .int .i64 a2_1, .int .i64 a2_2] 27 (0, 0))) ∧ Aside0 (wc.heap[gb293]? = some (.cells #[.int .i64 t288, .int .i64 t289, .int .i64 t290, .bool t291] 25 (0, 0))) ∧ Aside0 (Below w.heap.size w wc))
    case first =>
      have H := HC10.out
      clear HC10
      by_cases c36 : t294 ≥ 0
      · rw [if_pos c36] at H
        have c36b0 : decide (0 ≤ t294) = true := decide_eq_true c36
        clear c36
        (first | rw [c36b0] | (simp only [i64_w, i32_w]; rw [c36b0]) | skip)
        by_cases c37 : t294 ≤ a0_4
        · rw [if_pos c37] at H
          have c37b0 : decide (t294 ≤ a0_4) = true := decide_eq_true c37
          clear c37
          by_cases c38 : t292 = 0
          · rw [if_pos c38] at H
            have c38b0 : (t292 == 0) = true := beq_iff_eq.mpr c38
            have c38b1 : (t292 != 0) = false := bne_eq_false_iff_eq.mpr c38
            clear c38
            by_cases c39 : t295 = true
            · subst c39
              have H1 : (chargeparklaw12_ChargerValid.j0 k true t292 a0_0 a0_1 a0_2 a0_3 a0_4 a0_5 a0_6 a0_7 a2_0 a2_1 a2_2) = some r := by rw [if_pos rfl] at H; exact H
              clear H
              have H := H1
              clear H1
              have H' := Aside0.mk H
              clear H
              have hnb40 := NB284_285.out
              have hnc40 := NB285_284.out
              have hnb41 := NB284_286.out
              have hnc41 := NB286_284.out
              have hnb42 := NB284_293.out
              have hnc42 := NB293_284.out
              have hcz43_0 : w35.cell? ⟨gb284, 0, none⟩ = some (.string a0_0) := (blk_cell BK284.out 0).trans rfl
              have hcz43_1 : w35.cell? ⟨gb284, 1, none⟩ = some (.int .i64 a0_1) := (blk_cell BK284.out 1).trans rfl
              have hcz43_2 : w35.cell? ⟨gb284, 2, none⟩ = some (.int .i64 a0_2) := (blk_cell BK284.out 2).trans rfl
              have hcz43_3 : w35.cell? ⟨gb284, 3, none⟩ = some (.int .i64 a0_3) := (blk_cell BK284.out 3).trans rfl
              have hcz43_4 : w35.cell? ⟨gb284, 4, none⟩ = some (.int .i64 a0_4) := (blk_cell BK284.out 4).trans rfl
              have hcz43_5 : w35.cell? ⟨gb284, 5, none⟩ = some (.int .i64 a0_5) := (blk_cell BK284.out 5).trans rfl
              have hcz43_6 : w35.cell? ⟨gb284, 6, none⟩ = some (.int .i64 a0_6) := (blk_cell BK284.out 6).trans rfl
              have hcz43_7 : w35.cell? ⟨gb284, 7, none⟩ = some (.int .i64 a0_7) := (blk_cell BK284.out 7).trans rfl
              have hfz43_0 := blk_frozen BK284.out 0
              have hfz43_1 := blk_frozen BK284.out 1
              have hfz43_2 := blk_frozen BK284.out 2
              have hfz43_3 := blk_frozen BK284.out 3
              have hfz43_4 := blk_frozen BK284.out 4
              have hfz43_5 := blk_frozen BK284.out 5
              have hfz43_6 := blk_frozen BK284.out 6
              have hfz43_7 := blk_frozen BK284.out 7
              go_wp2
              go_meet
              case rel => exact ⟨_, (true), (by first | rfl | (simp; done) | (simp [*]; done)), H', ⟨by first | omega | exact Nat.le_refl _⟩, ⟨by (with_reducible repeat (first | refine blk_drewN ?_ _ | refine blk_drew ?_ | refine blk_alloc ?_ _)); exact BK284.out⟩, ⟨by (with_reducible repeat (first | refine blk_drewN ?_ _ | refine blk_drew ?_ | refine blk_alloc ?_ _)); exact BK285.out⟩, ⟨by (with_reducible repeat (first | refine blk_drewN ?_ _ | refine blk_drew ?_ | refine blk_alloc ?_ _)); exact BK286.out⟩, ⟨by (with_reducible repeat (first | refine blk_drewN ?_ _ | refine blk_drew ?_ | refine blk_alloc ?_ _)); exact BK293.out⟩, ⟨by repeat (first | (with_reducible first | exact HB.out | apply below_alloc | apply pw_below_drewN | apply below_drew1 | refine below_set ?_ GE284.out | refine below_set ?_ GE285.out | refine below_set ?_ GE286.out | refine below_set ?_ GE293.out) | exact HB.out)⟩⟩
            · replace c39 := Bool.eq_false_iff.mpr c39
              subst c39
              have H1 : (chargeparklaw12_ChargerValid.j0 k false t292 a0_0 a0_1 a0_2 a0_3 a0_4 a0_5 a0_6 a0_7 a2_0 a2_1 a2_2) = some r := by rw [if_neg (show ¬ (false = true) by decide)] at H; exact H
              clear H
              have H := H1
              clear H1
              have H' := Aside0.mk H
              clear H
              have hnb44 := NB284_285.out
              have hnc44 := NB285_284.out
              have hnb45 := NB284_286.out
              have hnc45 := NB286_284.out
              have hnb46 := NB284_293.out
              have hnc46 := NB293_284.out
              have hcz47_0 : w35.cell? ⟨gb284, 0, none⟩ = some (.string a0_0) := (blk_cell BK284.out 0).trans rfl
              have hcz47_1 : w35.cell? ⟨gb284, 1, none⟩ = some (.int .i64 a0_1) := (blk_cell BK284.out 1).trans rfl
              have hcz47_2 : w35.cell? ⟨gb284, 2, none⟩ = some (.int .i64 a0_2) := (blk_cell BK284.out 2).trans rfl
              have hcz47_3 : w35.cell? ⟨gb284, 3, none⟩ = some (.int .i64 a0_3) := (blk_cell BK284.out 3).trans rfl
              have hcz47_4 : w35.cell? ⟨gb284, 4, none⟩ = some (.int .i64 a0_4) := (blk_cell BK284.out 4).trans rfl
              have hcz47_5 : w35.cell? ⟨gb284, 5, none⟩ = some (.int .i64 a0_5) := (blk_cell BK284.out 5).trans rfl
              have hcz47_6 : w35.cell? ⟨gb284, 6, none⟩ = some (.int .i64 a0_6) := (blk_cell BK284.out 6).trans rfl
              have hcz47_7 : w35.cell? ⟨gb284, 7, none⟩ = some (.int .i64 a0_7) := (blk_cell BK284.out 7).trans rfl
              have hfz47_0 := blk_frozen BK284.out 0
              have hfz47_1 := blk_frozen BK284.out 1
              have hfz47_2 := blk_frozen BK284.out 2
              have hfz47_3 := blk_frozen BK284.out 3
              have hfz47_4 := blk_frozen BK284.out 4
              have hfz47_5 := blk_frozen BK284.out 5
              have hfz47_6 := blk_frozen BK284.out 6
              have hfz47_7 := blk_frozen BK284.out 7
              go_wp2
              go_meet
              case rel => exact ⟨_, (false), (by first | rfl | (simp; done) | (simp [*]; done)), H', ⟨by first | omega | exact Nat.le_refl _⟩, ⟨by (with_reducible repeat (first | refine blk_drewN ?_ _ | refine blk_drew ?_ | refine blk_alloc ?_ _)); exact BK284.out⟩, ⟨by (with_reducible repeat (first | refine blk_drewN ?_ _ | refine blk_drew ?_ | refine blk_alloc ?_ _)); exact BK285.out⟩, ⟨by (with_reducible repeat (first | refine blk_drewN ?_ _ | refine blk_drew ?_ | refine blk_alloc ?_ _)); exact BK286.out⟩, ⟨by (with_reducible repeat (first | refine blk_drewN ?_ _ | refine blk_drew ?_ | refine blk_alloc ?_ _)); exact BK293.out⟩, ⟨by repeat (first | (with_reducible first | exact HB.out | apply below_alloc | apply pw_below_drewN | apply below_drew1 | refine below_set ?_ GE284.out | refine below_set ?_ GE285.out | refine below_set ?_ GE286.out | refine below_set ?_ GE293.out) | exact HB.out)⟩⟩
          · rw [if_neg c38] at H
            have c38b0 : (t292 == 0) = false := beq_eq_false_iff_ne.mpr c38
            have c38b1 : (t292 != 0) = true := bne_iff_ne.mpr c38
            have H' := Aside0.mk H
            clear H
            have hnb48 := NB284_285.out
            have hnc48 := NB285_284.out
            have hnb49 := NB284_286.out
            have hnc49 := NB286_284.out
            have hnb50 := NB284_293.out
            have hnc50 := NB293_284.out
            have hcz51_0 : w35.cell? ⟨gb284, 0, none⟩ = some (.string a0_0) := (blk_cell BK284.out 0).trans rfl
            have hcz51_1 : w35.cell? ⟨gb284, 1, none⟩ = some (.int .i64 a0_1) := (blk_cell BK284.out 1).trans rfl
            have hcz51_2 : w35.cell? ⟨gb284, 2, none⟩ = some (.int .i64 a0_2) := (blk_cell BK284.out 2).trans rfl
            have hcz51_3 : w35.cell? ⟨gb284, 3, none⟩ = some (.int .i64 a0_3) := (blk_cell BK284.out 3).trans rfl
            have hcz51_4 : w35.cell? ⟨gb284, 4, none⟩ = some (.int .i64 a0_4) := (blk_cell BK284.out 4).trans rfl
            have hcz51_5 : w35.cell? ⟨gb284, 5, none⟩ = some (.int .i64 a0_5) := (blk_cell BK284.out 5).trans rfl
            have hcz51_6 : w35.cell? ⟨gb284, 6, none⟩ = some (.int .i64 a0_6) := (blk_cell BK284.out 6).trans rfl
            have hcz51_7 : w35.cell? ⟨gb284, 7, none⟩ = some (.int .i64 a0_7) := (blk_cell BK284.out 7).trans rfl
            have hfz51_0 := blk_frozen BK284.out 0
            have hfz51_1 := blk_frozen BK284.out 1
            have hfz51_2 := blk_frozen BK284.out 2
            have hfz51_3 := blk_frozen BK284.out 3
            have hfz51_4 := blk_frozen BK284.out 4
            have hfz51_5 := blk_frozen BK284.out 5
            have hfz51_6 := blk_frozen BK284.out 6
            have hfz51_7 := blk_frozen BK284.out 7
            have hnb52 := NB293_285.out
            have hnc52 := NB285_293.out
            have hnb53 := NB293_286.out
            have hnc53 := NB286_293.out
            have hcz54_0 : w35.cell? ⟨gb293, 0, none⟩ = some (.int .i64 t288) := (blk_cell BK293.out 0).trans rfl
            have hcz54_1 : w35.cell? ⟨gb293, 1, none⟩ = some (.int .i64 t289) := (blk_cell BK293.out 1).trans rfl
            have hcz54_2 : w35.cell? ⟨gb293, 2, none⟩ = some (.int .i64 t290) := (blk_cell BK293.out 2).trans rfl
            have hcz54_3 : w35.cell? ⟨gb293, 3, none⟩ = some (.bool t291) := (blk_cell BK293.out 3).trans rfl
            have hfz54_0 := blk_frozen BK293.out 0
            have hfz54_1 := blk_frozen BK293.out 1
            have hfz54_2 := blk_frozen BK293.out 2
            have hfz54_3 := blk_frozen BK293.out 3
            go_wp2
            go_meet
            case rel => exact ⟨_, ((t288 == 0 && (t289 == 0 && (t290 == 0 && (!t291))))), (by first | rfl | (simp; done) | (simp [*]; done)), H', ⟨by first | omega | exact Nat.le_refl _⟩, ⟨by (with_reducible repeat (first | refine blk_drewN ?_ _ | refine blk_drew ?_ | refine blk_alloc ?_ _)); exact BK284.out⟩, ⟨by (with_reducible repeat (first | refine blk_drewN ?_ _ | refine blk_drew ?_ | refine blk_alloc ?_ _)); exact BK285.out⟩, ⟨by (with_reducible repeat (first | refine blk_drewN ?_ _ | refine blk_drew ?_ | refine blk_alloc ?_ _)); exact BK286.out⟩, ⟨by (with_reducible repeat (first | refine blk_drewN ?_ _ | refine blk_drew ?_ | refine blk_alloc ?_ _)); exact BK293.out⟩, ⟨by repeat (first | (with_reducible first | exact HB.out | apply below_alloc | apply pw_below_drewN | apply below_drew1 | refine below_set ?_ GE284.out | refine below_set ?_ GE285.out | refine below_set ?_ GE286.out | refine below_set ?_ GE293.out) | exact HB.out)⟩⟩
        · rw [if_neg c37] at H
          have c37b0 : decide (t294 ≤ a0_4) = false := decide_eq_false c37
          clear c37
          have H' := Aside0.mk H
          clear H
          have hnb55 := NB284_285.out
          have hnc55 := NB285_284.out
          have hnb56 := NB284_286.out
          have hnc56 := NB286_284.out
          have hnb57 := NB284_293.out
          have hnc57 := NB293_284.out
          have hcz58_0 : w35.cell? ⟨gb284, 0, none⟩ = some (.string a0_0) := (blk_cell BK284.out 0).trans rfl
          have hcz58_1 : w35.cell? ⟨gb284, 1, none⟩ = some (.int .i64 a0_1) := (blk_cell BK284.out 1).trans rfl
          have hcz58_2 : w35.cell? ⟨gb284, 2, none⟩ = some (.int .i64 a0_2) := (blk_cell BK284.out 2).trans rfl
          have hcz58_3 : w35.cell? ⟨gb284, 3, none⟩ = some (.int .i64 a0_3) := (blk_cell BK284.out 3).trans rfl
          have hcz58_4 : w35.cell? ⟨gb284, 4, none⟩ = some (.int .i64 a0_4) := (blk_cell BK284.out 4).trans rfl
          have hcz58_5 : w35.cell? ⟨gb284, 5, none⟩ = some (.int .i64 a0_5) := (blk_cell BK284.out 5).trans rfl
          have hcz58_6 : w35.cell? ⟨gb284, 6, none⟩ = some (.int .i64 a0_6) := (blk_cell BK284.out 6).trans rfl
          have hcz58_7 : w35.cell? ⟨gb284, 7, none⟩ = some (.int .i64 a0_7) := (blk_cell BK284.out 7).trans rfl
          have hfz58_0 := blk_frozen BK284.out 0
          have hfz58_1 := blk_frozen BK284.out 1
          have hfz58_2 := blk_frozen BK284.out 2
          have hfz58_3 := blk_frozen BK284.out 3
          have hfz58_4 := blk_frozen BK284.out 4
          have hfz58_5 := blk_frozen BK284.out 5
          have hfz58_6 := blk_frozen BK284.out 6
          have hfz58_7 := blk_frozen BK284.out 7
          go_wp2
          go_meet
          case rel => exact ⟨_, (false), (by first | rfl | (simp; done) | (simp [*]; done)), H', ⟨by first | omega | exact Nat.le_refl _⟩, ⟨by (with_reducible repeat (first | refine blk_drewN ?_ _ | refine blk_drew ?_ | refine blk_alloc ?_ _)); exact BK284.out⟩, ⟨by (with_reducible repeat (first | refine blk_drewN ?_ _ | refine blk_drew ?_ | refine blk_alloc ?_ _)); exact BK285.out⟩, ⟨by (with_reducible repeat (first | refine blk_drewN ?_ _ | refine blk_drew ?_ | refine blk_alloc ?_ _)); exact BK286.out⟩, ⟨by (with_reducible repeat (first | refine blk_drewN ?_ _ | refine blk_drew ?_ | refine blk_alloc ?_ _)); exact BK293.out⟩, ⟨by repeat (first | (with_reducible first | exact HB.out | apply below_alloc | apply pw_below_drewN | apply below_drew1 | refine below_set ?_ GE284.out | refine below_set ?_ GE285.out | refine below_set ?_ GE286.out | refine below_set ?_ GE293.out) | exact HB.out)⟩⟩
      · rw [if_neg c36] at H
        have c36b0 : decide (0 ≤ t294) = false := decide_eq_false c36
        clear c36
        (first | rw [c36b0] | (simp only [i64_w, i32_w]; rw [c36b0]) | skip)
        have H' := Aside0.mk H
        clear H
        go_wp2
        go_meet
        case rel => exact ⟨_, (false), (by first | rfl | (simp; done) | (simp [*]; done)), H', ⟨by first | omega | exact Nat.le_refl _⟩, ⟨by (with_reducible repeat (first | refine blk_drewN ?_ _ | refine blk_drew ?_ | refine blk_alloc ?_ _)); exact BK284.out⟩, ⟨by (with_reducible repeat (first | refine blk_drewN ?_ _ | refine blk_drew ?_ | refine blk_alloc ?_ _)); exact BK285.out⟩, ⟨by (with_reducible repeat (first | refine blk_drewN ?_ _ | refine blk_drew ?_ | refine blk_alloc ?_ _)); exact BK286.out⟩, ⟨by (with_reducible repeat (first | refine blk_drewN ?_ _ | refine blk_drew ?_ | refine blk_alloc ?_ _)); exact BK293.out⟩, ⟨by repeat (first | (with_reducible first | exact HB.out | apply below_alloc | apply pw_below_drewN | apply below_drew1 | refine below_set ?_ GE284.out | refine below_set ?_ GE285.out | refine below_set ?_ GE286.out | refine below_set ?_ GE293.out) | exact HB.out)⟩⟩
    case rest =>
      clear HC10
      try clear c1
      try clear c2
      try clear p2
      try clear c3
      try clear c4
      try clear c5
      try clear c6
      try clear c10
      try clear c11
      try clear c14
      try clear c15
      try clear c16
      try clear c18
      try clear c26
      try clear c27
      try clear c28
      try clear c36
      try clear c36b0
      try clear c37
      try clear c37b0
      try clear c38
      try clear c38b0
      try clear c38b1
      try clear c39
      try clear c40
      try clear c41
      try clear c42
      try clear c44
      try clear c45
      try clear c46
      try clear c48
      try clear c49
      try clear c50
      try clear c52
      try clear c53
      try clear c55
      try clear c56
      try clear c57
      try clear hcz17_0
      try clear hcz17_1
      try clear hcz17_2
      try clear hcz17_3
      try clear hcz17_4
      try clear hcz17_5
      try clear hcz17_6
      try clear hcz17_7
      try clear hcz19_0
      try clear hcz19_1
      try clear hcz19_2
      try clear hcz19_3
      try clear hcz21_0
      try clear hcz21_1
      try clear hcz21_2
      try clear hcz21_3
      try clear hcz21_4
      try clear hcz21_5
      try clear hcz21_6
      try clear hcz21_7
      try clear hcz22_0
      try clear hcz22_1
      try clear hcz22_2
      try clear hcz22_3
      try clear hcz23_0
      try clear hcz23_1
      try clear hcz23_2
      try clear hcz29_0
      try clear hcz29_1
      try clear hcz29_2
      try clear hcz29_3
      try clear hcz30_0
      try clear hcz30_1
      try clear hcz30_2
      try clear hcz30_3
      try clear hcz30_4
      try clear hcz30_5
      try clear hcz30_6
      try clear hcz30_7
      try clear hcz31_0
      try clear hcz31_1
      try clear hcz31_2
      try clear hcz31_3
      try clear hcz33_0
      try clear hcz33_1
      try clear hcz33_2
      try clear hcz33_3
      try clear hcz33_4
      try clear hcz33_5
      try clear hcz33_6
      try clear hcz33_7
      try clear hcz34_0
      try clear hcz34_1
      try clear hcz34_2
      try clear hcz34_3
      try clear hcz43_0
      try clear hcz43_1
      try clear hcz43_2
      try clear hcz43_3
      try clear hcz43_4
      try clear hcz43_5
      try clear hcz43_6
      try clear hcz43_7
      try clear hcz47_0
      try clear hcz47_1
      try clear hcz47_2
      try clear hcz47_3
      try clear hcz47_4
      try clear hcz47_5
      try clear hcz47_6
      try clear hcz47_7
      try clear hcz51_0
      try clear hcz51_1
      try clear hcz51_2
      try clear hcz51_3
      try clear hcz51_4
      try clear hcz51_5
      try clear hcz51_6
      try clear hcz51_7
      try clear hcz54_0
      try clear hcz54_1
      try clear hcz54_2
      try clear hcz54_3
      try clear hcz58_0
      try clear hcz58_1
      try clear hcz58_2
      try clear hcz58_3
      try clear hcz58_4
      try clear hcz58_5
      try clear hcz58_6
      try clear hcz58_7
      try clear hfz17_0
      try clear hfz17_1
      try clear hfz17_2
      try clear hfz17_3
      try clear hfz17_4
      try clear hfz17_5
      try clear hfz17_6
      try clear hfz17_7
      try clear hfz19_0
      try clear hfz19_1
      try clear hfz19_2
      try clear hfz19_3
      try clear hfz21_0
      try clear hfz21_1
      try clear hfz21_2
      try clear hfz21_3
      try clear hfz21_4
      try clear hfz21_5
      try clear hfz21_6
      try clear hfz21_7
      try clear hfz22_0
      try clear hfz22_1
      try clear hfz22_2
      try clear hfz22_3
      try clear hfz23_0
      try clear hfz23_1
      try clear hfz23_2
      try clear hfz29_0
      try clear hfz29_1
      try clear hfz29_2
      try clear hfz29_3
      try clear hfz30_0
      try clear hfz30_1
      try clear hfz30_2
      try clear hfz30_3
      try clear hfz30_4
      try clear hfz30_5
      try clear hfz30_6
      try clear hfz30_7
      try clear hfz31_0
      try clear hfz31_1
      try clear hfz31_2
      try clear hfz31_3
      try clear hfz33_0
      try clear hfz33_1
      try clear hfz33_2
      try clear hfz33_3
      try clear hfz33_4
      try clear hfz33_5
      try clear hfz33_6
      try clear hfz33_7
      try clear hfz34_0
      try clear hfz34_1
      try clear hfz34_2
      try clear hfz34_3
      try clear hfz43_0
      try clear hfz43_1
      try clear hfz43_2
      try clear hfz43_3
      try clear hfz43_4
      try clear hfz43_5
      try clear hfz43_6
      try clear hfz43_7
      try clear hfz47_0
      try clear hfz47_1
      try clear hfz47_2
      try clear hfz47_3
      try clear hfz47_4
      try clear hfz47_5
      try clear hfz47_6
      try clear hfz47_7
      try clear hfz51_0
      try clear hfz51_1
      try clear hfz51_2
      try clear hfz51_3
      try clear hfz51_4
      try clear hfz51_5
      try clear hfz51_6
      try clear hfz51_7
      try clear hfz54_0
      try clear hfz54_1
      try clear hfz54_2
      try clear hfz54_3
      try clear hfz58_0
      try clear hfz58_1
      try clear hfz58_2
      try clear hfz58_3
      try clear hfz58_4
      try clear hfz58_5
      try clear hfz58_6
      try clear hfz58_7
      obtain ⟨kq, x7_9, rfl, HA, HJ9, BK284, BK285, BK286, BK293, HB⟩ := hcut
      cases kq with
      | zero => exact absurd HA.out (by simp [chargeparklaw12_ChargerValid.j0])
      | succ kj9 =>
        have H := HA.out
        clear HA
        simp only [chargeparklaw12_ChargerValid.j0] at H
        have HC59 := Aside0.mk H
        clear H
        go_upto_region 9 with (fail)
        go_cut [13] (fun v13 wc => ∃ (kq : Nat) (x13_58 : Bool), v13 = .bool x13_58 ∧ Aside0 (chargeparklaw12_ChargerValid.j1 kq x7_9 t292 x13_58 a2_0 a2_1 a2_2 = some r) ∧ Aside0 (kq ≤ kj9) ∧ Aside0 (wc.heap[gb284]? = some (.cells #[.string a0_0, .int .i64 a0_1, .int .i64 a0_2, .int .i64 a0_3, .int .i64 a0_4, .int .i64 a0_5, .int .i64 a0_6, .int .i64 a0_7] 23 (0, 0))) ∧ Aside0 (wc.heap[gb285]? = some (.cells #[.int .i64 a1_0, .int .i64 a1_1, .int .i64 a1_2, .bool a1_3] 25 (0, 0))) ∧ Aside0 (wc.heap[gb286]? = some (.cells #[.int .i64 a2_0, .int .i64 a2_1, .int .i64 a2_2] 27 (0, 0))) ∧ Aside0 (wc.heap[gb293]? = some (.cells #[.int .i64 t288, .int .i64 t289, .int .i64 t290, .bool t291] 25 (0, 0))) ∧ Aside0 (Below w.heap.size w wc))
        case first =>
          have H := HC59.out
          clear HC59
          by_cases c60 : a2_0 = 7
          · rw [if_pos c60] at H
            have c60b0 : (a2_0 == 7) = true := beq_iff_eq.mpr c60
            have c60b1 : (a2_0 != 7) = false := bne_eq_false_iff_eq.mpr c60
            clear c60
            (first | rw [c60b0] | (simp only [i64_w, i32_w]; rw [c60b0]) | skip)
            by_cases c61 : a2_1 ≥ 0
            · rw [if_pos c61] at H
              have c61b0 : decide (0 ≤ a2_1) = true := decide_eq_true c61
              clear c61
              by_cases c62 : a2_1 ≤ a0_4
              · rw [if_pos c62] at H
                have c62b0 : decide (a2_1 ≤ a0_4) = true := decide_eq_true c62
                clear c62
                by_cases c63 : a2_2 ≥ 1
                · rw [if_pos c63] at H
                  have c63b0 : decide (1 ≤ a2_2) = true := decide_eq_true c63
                  clear c63
                  have H' := Aside0.mk H
                  clear H
                  have hnb64 := NB286_284.out
                  have hnc64 := NB284_286.out
                  have hnb65 := NB286_285.out
                  have hnc65 := NB285_286.out
                  have hnb66 := NB286_293.out
                  have hnc66 := NB293_286.out
                  have hcz67_0 : wc.cell? ⟨gb286, 0, none⟩ = some (.int .i64 a2_0) := (blk_cell BK286.out 0).trans rfl
                  have hcz67_1 : wc.cell? ⟨gb286, 1, none⟩ = some (.int .i64 a2_1) := (blk_cell BK286.out 1).trans rfl
                  have hcz67_2 : wc.cell? ⟨gb286, 2, none⟩ = some (.int .i64 a2_2) := (blk_cell BK286.out 2).trans rfl
                  have hfz67_0 := blk_frozen BK286.out 0
                  have hfz67_1 := blk_frozen BK286.out 1
                  have hfz67_2 := blk_frozen BK286.out 2
                  have hnb68 := NB284_285.out
                  have hnc68 := NB285_284.out
                  have hnb69 := NB284_293.out
                  have hnc69 := NB293_284.out
                  have hcz70_0 : wc.cell? ⟨gb284, 0, none⟩ = some (.string a0_0) := (blk_cell BK284.out 0).trans rfl
                  have hcz70_1 : wc.cell? ⟨gb284, 1, none⟩ = some (.int .i64 a0_1) := (blk_cell BK284.out 1).trans rfl
                  have hcz70_2 : wc.cell? ⟨gb284, 2, none⟩ = some (.int .i64 a0_2) := (blk_cell BK284.out 2).trans rfl
                  have hcz70_3 : wc.cell? ⟨gb284, 3, none⟩ = some (.int .i64 a0_3) := (blk_cell BK284.out 3).trans rfl
                  have hcz70_4 : wc.cell? ⟨gb284, 4, none⟩ = some (.int .i64 a0_4) := (blk_cell BK284.out 4).trans rfl
                  have hcz70_5 : wc.cell? ⟨gb284, 5, none⟩ = some (.int .i64 a0_5) := (blk_cell BK284.out 5).trans rfl
                  have hcz70_6 : wc.cell? ⟨gb284, 6, none⟩ = some (.int .i64 a0_6) := (blk_cell BK284.out 6).trans rfl
                  have hcz70_7 : wc.cell? ⟨gb284, 7, none⟩ = some (.int .i64 a0_7) := (blk_cell BK284.out 7).trans rfl
                  have hfz70_0 := blk_frozen BK284.out 0
                  have hfz70_1 := blk_frozen BK284.out 1
                  have hfz70_2 := blk_frozen BK284.out 2
                  have hfz70_3 := blk_frozen BK284.out 3
                  have hfz70_4 := blk_frozen BK284.out 4
                  have hfz70_5 := blk_frozen BK284.out 5
                  have hfz70_6 := blk_frozen BK284.out 6
                  have hfz70_7 := blk_frozen BK284.out 7
                  go_wp2
                  go_meet
                  case rel => exact ⟨_, (decide (a2_2 ≤ 1000000)), (by first | rfl | (simp; done) | (simp [*]; done)), H', ⟨by have := HJ9.out; first | omega | exact Nat.le_refl _⟩, ⟨by (with_reducible repeat (first | refine blk_drewN ?_ _ | refine blk_drew ?_ | refine blk_alloc ?_ _)); exact BK284.out⟩, ⟨by (with_reducible repeat (first | refine blk_drewN ?_ _ | refine blk_drew ?_ | refine blk_alloc ?_ _)); exact BK285.out⟩, ⟨by (with_reducible repeat (first | refine blk_drewN ?_ _ | refine blk_drew ?_ | refine blk_alloc ?_ _)); exact BK286.out⟩, ⟨by (with_reducible repeat (first | refine blk_drewN ?_ _ | refine blk_drew ?_ | refine blk_alloc ?_ _)); exact BK293.out⟩, ⟨by repeat (first | (with_reducible first | exact HB.out | apply below_alloc | apply pw_below_drewN | apply below_drew1 | refine below_set ?_ GE284.out | refine below_set ?_ GE285.out | refine below_set ?_ GE286.out | refine below_set ?_ GE293.out) | exact HB.out)⟩⟩
                · rw [if_neg c63] at H
                  have c63b0 : decide (1 ≤ a2_2) = false := decide_eq_false c63
                  clear c63
                  have H' := Aside0.mk H
                  clear H
                  have hnb71 := NB286_284.out
                  have hnc71 := NB284_286.out
                  have hnb72 := NB286_285.out
                  have hnc72 := NB285_286.out
                  have hnb73 := NB286_293.out
                  have hnc73 := NB293_286.out
                  have hcz74_0 : wc.cell? ⟨gb286, 0, none⟩ = some (.int .i64 a2_0) := (blk_cell BK286.out 0).trans rfl
                  have hcz74_1 : wc.cell? ⟨gb286, 1, none⟩ = some (.int .i64 a2_1) := (blk_cell BK286.out 1).trans rfl
                  have hcz74_2 : wc.cell? ⟨gb286, 2, none⟩ = some (.int .i64 a2_2) := (blk_cell BK286.out 2).trans rfl
                  have hfz74_0 := blk_frozen BK286.out 0
                  have hfz74_1 := blk_frozen BK286.out 1
                  have hfz74_2 := blk_frozen BK286.out 2
                  have hnb75 := NB284_285.out
                  have hnc75 := NB285_284.out
                  have hnb76 := NB284_293.out
                  have hnc76 := NB293_284.out
                  have hcz77_0 : wc.cell? ⟨gb284, 0, none⟩ = some (.string a0_0) := (blk_cell BK284.out 0).trans rfl
                  have hcz77_1 : wc.cell? ⟨gb284, 1, none⟩ = some (.int .i64 a0_1) := (blk_cell BK284.out 1).trans rfl
                  have hcz77_2 : wc.cell? ⟨gb284, 2, none⟩ = some (.int .i64 a0_2) := (blk_cell BK284.out 2).trans rfl
                  have hcz77_3 : wc.cell? ⟨gb284, 3, none⟩ = some (.int .i64 a0_3) := (blk_cell BK284.out 3).trans rfl
                  have hcz77_4 : wc.cell? ⟨gb284, 4, none⟩ = some (.int .i64 a0_4) := (blk_cell BK284.out 4).trans rfl
                  have hcz77_5 : wc.cell? ⟨gb284, 5, none⟩ = some (.int .i64 a0_5) := (blk_cell BK284.out 5).trans rfl
                  have hcz77_6 : wc.cell? ⟨gb284, 6, none⟩ = some (.int .i64 a0_6) := (blk_cell BK284.out 6).trans rfl
                  have hcz77_7 : wc.cell? ⟨gb284, 7, none⟩ = some (.int .i64 a0_7) := (blk_cell BK284.out 7).trans rfl
                  have hfz77_0 := blk_frozen BK284.out 0
                  have hfz77_1 := blk_frozen BK284.out 1
                  have hfz77_2 := blk_frozen BK284.out 2
                  have hfz77_3 := blk_frozen BK284.out 3
                  have hfz77_4 := blk_frozen BK284.out 4
                  have hfz77_5 := blk_frozen BK284.out 5
                  have hfz77_6 := blk_frozen BK284.out 6
                  have hfz77_7 := blk_frozen BK284.out 7
                  go_wp2
                  go_meet
                  case rel => exact ⟨_, (false), (by first | rfl | (simp; done) | (simp [*]; done)), H', ⟨by have := HJ9.out; first | omega | exact Nat.le_refl _⟩, ⟨by (with_reducible repeat (first | refine blk_drewN ?_ _ | refine blk_drew ?_ | refine blk_alloc ?_ _)); exact BK284.out⟩, ⟨by (with_reducible repeat (first | refine blk_drewN ?_ _ | refine blk_drew ?_ | refine blk_alloc ?_ _)); exact BK285.out⟩, ⟨by (with_reducible repeat (first | refine blk_drewN ?_ _ | refine blk_drew ?_ | refine blk_alloc ?_ _)); exact BK286.out⟩, ⟨by (with_reducible repeat (first | refine blk_drewN ?_ _ | refine blk_drew ?_ | refine blk_alloc ?_ _)); exact BK293.out⟩, ⟨by repeat (first | (with_reducible first | exact HB.out | apply below_alloc | apply pw_below_drewN | apply below_drew1 | refine below_set ?_ GE284.out | refine below_set ?_ GE285.out | refine below_set ?_ GE286.out | refine below_set ?_ GE293.out) | exact HB.out)⟩⟩
              · rw [if_neg c62] at H
                have c62b0 : decide (a2_1 ≤ a0_4) = false := decide_eq_false c62
                clear c62
                have H' := Aside0.mk H
                clear H
                have hnb78 := NB286_284.out
                have hnc78 := NB284_286.out
                have hnb79 := NB286_285.out
                have hnc79 := NB285_286.out
                have hnb80 := NB286_293.out
                have hnc80 := NB293_286.out
                have hcz81_0 : wc.cell? ⟨gb286, 0, none⟩ = some (.int .i64 a2_0) := (blk_cell BK286.out 0).trans rfl
                have hcz81_1 : wc.cell? ⟨gb286, 1, none⟩ = some (.int .i64 a2_1) := (blk_cell BK286.out 1).trans rfl
                have hcz81_2 : wc.cell? ⟨gb286, 2, none⟩ = some (.int .i64 a2_2) := (blk_cell BK286.out 2).trans rfl
                have hfz81_0 := blk_frozen BK286.out 0
                have hfz81_1 := blk_frozen BK286.out 1
                have hfz81_2 := blk_frozen BK286.out 2
                have hnb82 := NB284_285.out
                have hnc82 := NB285_284.out
                have hnb83 := NB284_293.out
                have hnc83 := NB293_284.out
                have hcz84_0 : wc.cell? ⟨gb284, 0, none⟩ = some (.string a0_0) := (blk_cell BK284.out 0).trans rfl
                have hcz84_1 : wc.cell? ⟨gb284, 1, none⟩ = some (.int .i64 a0_1) := (blk_cell BK284.out 1).trans rfl
                have hcz84_2 : wc.cell? ⟨gb284, 2, none⟩ = some (.int .i64 a0_2) := (blk_cell BK284.out 2).trans rfl
                have hcz84_3 : wc.cell? ⟨gb284, 3, none⟩ = some (.int .i64 a0_3) := (blk_cell BK284.out 3).trans rfl
                have hcz84_4 : wc.cell? ⟨gb284, 4, none⟩ = some (.int .i64 a0_4) := (blk_cell BK284.out 4).trans rfl
                have hcz84_5 : wc.cell? ⟨gb284, 5, none⟩ = some (.int .i64 a0_5) := (blk_cell BK284.out 5).trans rfl
                have hcz84_6 : wc.cell? ⟨gb284, 6, none⟩ = some (.int .i64 a0_6) := (blk_cell BK284.out 6).trans rfl
                have hcz84_7 : wc.cell? ⟨gb284, 7, none⟩ = some (.int .i64 a0_7) := (blk_cell BK284.out 7).trans rfl
                have hfz84_0 := blk_frozen BK284.out 0
                have hfz84_1 := blk_frozen BK284.out 1
                have hfz84_2 := blk_frozen BK284.out 2
                have hfz84_3 := blk_frozen BK284.out 3
                have hfz84_4 := blk_frozen BK284.out 4
                have hfz84_5 := blk_frozen BK284.out 5
                have hfz84_6 := blk_frozen BK284.out 6
                have hfz84_7 := blk_frozen BK284.out 7
                go_wp2
                go_meet
                case rel => exact ⟨_, (false), (by first | rfl | (simp; done) | (simp [*]; done)), H', ⟨by have := HJ9.out; first | omega | exact Nat.le_refl _⟩, ⟨by (with_reducible repeat (first | refine blk_drewN ?_ _ | refine blk_drew ?_ | refine blk_alloc ?_ _)); exact BK284.out⟩, ⟨by (with_reducible repeat (first | refine blk_drewN ?_ _ | refine blk_drew ?_ | refine blk_alloc ?_ _)); exact BK285.out⟩, ⟨by (with_reducible repeat (first | refine blk_drewN ?_ _ | refine blk_drew ?_ | refine blk_alloc ?_ _)); exact BK286.out⟩, ⟨by (with_reducible repeat (first | refine blk_drewN ?_ _ | refine blk_drew ?_ | refine blk_alloc ?_ _)); exact BK293.out⟩, ⟨by repeat (first | (with_reducible first | exact HB.out | apply below_alloc | apply pw_below_drewN | apply below_drew1 | refine below_set ?_ GE284.out | refine below_set ?_ GE285.out | refine below_set ?_ GE286.out | refine below_set ?_ GE293.out) | exact HB.out)⟩⟩
            · rw [if_neg c61] at H
              have c61b0 : decide (0 ≤ a2_1) = false := decide_eq_false c61
              clear c61
              have H' := Aside0.mk H
              clear H
              have hnb85 := NB286_284.out
              have hnc85 := NB284_286.out
              have hnb86 := NB286_285.out
              have hnc86 := NB285_286.out
              have hnb87 := NB286_293.out
              have hnc87 := NB293_286.out
              have hcz88_0 : wc.cell? ⟨gb286, 0, none⟩ = some (.int .i64 a2_0) := (blk_cell BK286.out 0).trans rfl
              have hcz88_1 : wc.cell? ⟨gb286, 1, none⟩ = some (.int .i64 a2_1) := (blk_cell BK286.out 1).trans rfl
              have hcz88_2 : wc.cell? ⟨gb286, 2, none⟩ = some (.int .i64 a2_2) := (blk_cell BK286.out 2).trans rfl
              have hfz88_0 := blk_frozen BK286.out 0
              have hfz88_1 := blk_frozen BK286.out 1
              have hfz88_2 := blk_frozen BK286.out 2
              go_wp2
              go_meet
              case rel => exact ⟨_, (false), (by first | rfl | (simp; done) | (simp [*]; done)), H', ⟨by have := HJ9.out; first | omega | exact Nat.le_refl _⟩, ⟨by (with_reducible repeat (first | refine blk_drewN ?_ _ | refine blk_drew ?_ | refine blk_alloc ?_ _)); exact BK284.out⟩, ⟨by (with_reducible repeat (first | refine blk_drewN ?_ _ | refine blk_drew ?_ | refine blk_alloc ?_ _)); exact BK285.out⟩, ⟨by (with_reducible repeat (first | refine blk_drewN ?_ _ | refine blk_drew ?_ | refine blk_alloc ?_ _)); exact BK286.out⟩, ⟨by (with_reducible repeat (first | refine blk_drewN ?_ _ | refine blk_drew ?_ | refine blk_alloc ?_ _)); exact BK293.out⟩, ⟨by repeat (first | (with_reducible first | exact HB.out | apply below_alloc | apply pw_below_drewN | apply below_drew1 | refine below_set ?_ GE284.out | refine below_set ?_ GE285.out | refine below_set ?_ GE286.out | refine below_set ?_ GE293.out) | exact HB.out)⟩⟩
          · rw [if_neg c60] at H
            have c60b0 : (a2_0 == 7) = false := beq_eq_false_iff_ne.mpr c60
            have c60b1 : (a2_0 != 7) = true := bne_iff_ne.mpr c60
            (first | rw [c60b0] | (simp only [i64_w, i32_w]; rw [c60b0]) | skip)
            have H' := Aside0.mk H
            clear H
            have hnb89 := NB286_284.out
            have hnc89 := NB284_286.out
            have hnb90 := NB286_285.out
            have hnc90 := NB285_286.out
            have hnb91 := NB286_293.out
            have hnc91 := NB293_286.out
            have hcz92_0 : wc.cell? ⟨gb286, 0, none⟩ = some (.int .i64 a2_0) := (blk_cell BK286.out 0).trans rfl
            have hcz92_1 : wc.cell? ⟨gb286, 1, none⟩ = some (.int .i64 a2_1) := (blk_cell BK286.out 1).trans rfl
            have hcz92_2 : wc.cell? ⟨gb286, 2, none⟩ = some (.int .i64 a2_2) := (blk_cell BK286.out 2).trans rfl
            have hfz92_0 := blk_frozen BK286.out 0
            have hfz92_1 := blk_frozen BK286.out 1
            have hfz92_2 := blk_frozen BK286.out 2
            go_wp2
            go_meet
            case rel => exact ⟨_, (false), (by first | rfl | (simp; done) | (simp [*]; done)), H', ⟨by have := HJ9.out; first | omega | exact Nat.le_refl _⟩, ⟨by (with_reducible repeat (first | refine blk_drewN ?_ _ | refine blk_drew ?_ | refine blk_alloc ?_ _)); exact BK284.out⟩, ⟨by (with_reducible repeat (first | refine blk_drewN ?_ _ | refine blk_drew ?_ | refine blk_alloc ?_ _)); exact BK285.out⟩, ⟨by (with_reducible repeat (first | refine blk_drewN ?_ _ | refine blk_drew ?_ | refine blk_alloc ?_ _)); exact BK286.out⟩, ⟨by (with_reducible repeat (first | refine blk_drewN ?_ _ | refine blk_drew ?_ | refine blk_alloc ?_ _)); exact BK293.out⟩, ⟨by repeat (first | (with_reducible first | exact HB.out | apply below_alloc | apply pw_below_drewN | apply below_drew1 | refine below_set ?_ GE284.out | refine below_set ?_ GE285.out | refine below_set ?_ GE286.out | refine below_set ?_ GE293.out) | exact HB.out)⟩⟩
        case rest =>
          clear HC59
          try clear c1
          try clear c2
          try clear p2
          try clear c3
          try clear c4
          try clear c5
          try clear c6
          try clear c7
          try clear c8
          try clear c9
          try clear c10
          try clear c11
          try clear c14
          try clear c15
          try clear c16
          try clear c18
          try clear c26
          try clear c27
          try clear c28
          try clear c36
          try clear c36b0
          try clear c37
          try clear c37b0
          try clear c38
          try clear c38b0
          try clear c38b1
          try clear c39
          try clear c40
          try clear c41
          try clear c42
          try clear c44
          try clear c45
          try clear c46
          try clear c48
          try clear c49
          try clear c50
          try clear c52
          try clear c53
          try clear c55
          try clear c56
          try clear c57
          try clear c60
          try clear c60b0
          try clear c60b1
          try clear c61
          try clear c61b0
          try clear c62
          try clear c62b0
          try clear c63
          try clear c63b0
          try clear c64
          try clear c65
          try clear c66
          try clear c68
          try clear c69
          try clear c71
          try clear c72
          try clear c73
          try clear c75
          try clear c76
          try clear c78
          try clear c79
          try clear c80
          try clear c82
          try clear c83
          try clear c85
          try clear c86
          try clear c87
          try clear c89
          try clear c90
          try clear c91
          try clear hcz17_0
          try clear hcz17_1
          try clear hcz17_2
          try clear hcz17_3
          try clear hcz17_4
          try clear hcz17_5
          try clear hcz17_6
          try clear hcz17_7
          try clear hcz19_0
          try clear hcz19_1
          try clear hcz19_2
          try clear hcz19_3
          try clear hcz21_0
          try clear hcz21_1
          try clear hcz21_2
          try clear hcz21_3
          try clear hcz21_4
          try clear hcz21_5
          try clear hcz21_6
          try clear hcz21_7
          try clear hcz22_0
          try clear hcz22_1
          try clear hcz22_2
          try clear hcz22_3
          try clear hcz23_0
          try clear hcz23_1
          try clear hcz23_2
          try clear hcz29_0
          try clear hcz29_1
          try clear hcz29_2
          try clear hcz29_3
          try clear hcz30_0
          try clear hcz30_1
          try clear hcz30_2
          try clear hcz30_3
          try clear hcz30_4
          try clear hcz30_5
          try clear hcz30_6
          try clear hcz30_7
          try clear hcz31_0
          try clear hcz31_1
          try clear hcz31_2
          try clear hcz31_3
          try clear hcz33_0
          try clear hcz33_1
          try clear hcz33_2
          try clear hcz33_3
          try clear hcz33_4
          try clear hcz33_5
          try clear hcz33_6
          try clear hcz33_7
          try clear hcz34_0
          try clear hcz34_1
          try clear hcz34_2
          try clear hcz34_3
          try clear hcz43_0
          try clear hcz43_1
          try clear hcz43_2
          try clear hcz43_3
          try clear hcz43_4
          try clear hcz43_5
          try clear hcz43_6
          try clear hcz43_7
          try clear hcz47_0
          try clear hcz47_1
          try clear hcz47_2
          try clear hcz47_3
          try clear hcz47_4
          try clear hcz47_5
          try clear hcz47_6
          try clear hcz47_7
          try clear hcz51_0
          try clear hcz51_1
          try clear hcz51_2
          try clear hcz51_3
          try clear hcz51_4
          try clear hcz51_5
          try clear hcz51_6
          try clear hcz51_7
          try clear hcz54_0
          try clear hcz54_1
          try clear hcz54_2
          try clear hcz54_3
          try clear hcz58_0
          try clear hcz58_1
          try clear hcz58_2
          try clear hcz58_3
          try clear hcz58_4
          try clear hcz58_5
          try clear hcz58_6
          try clear hcz58_7
          try clear hcz67_0
          try clear hcz67_1
          try clear hcz67_2
          try clear hcz70_0
          try clear hcz70_1
          try clear hcz70_2
          try clear hcz70_3
          try clear hcz70_4
          try clear hcz70_5
          try clear hcz70_6
          try clear hcz70_7
          try clear hcz74_0
          try clear hcz74_1
          try clear hcz74_2
          try clear hcz77_0
          try clear hcz77_1
          try clear hcz77_2
          try clear hcz77_3
          try clear hcz77_4
          try clear hcz77_5
          try clear hcz77_6
          try clear hcz77_7
          try clear hcz81_0
          try clear hcz81_1
          try clear hcz81_2
          try clear hcz84_0
          try clear hcz84_1
          try clear hcz84_2
          try clear hcz84_3
          try clear hcz84_4
          try clear hcz84_5
          try clear hcz84_6
          try clear hcz84_7
          try clear hcz88_0
          try clear hcz88_1
          try clear hcz88_2
          try clear hcz92_0
          try clear hcz92_1
          try clear hcz92_2
          try clear hfz17_0
          try clear hfz17_1
          try clear hfz17_2
          try clear hfz17_3
          try clear hfz17_4
          try clear hfz17_5
          try clear hfz17_6
          try clear hfz17_7
          try clear hfz19_0
          try clear hfz19_1
          try clear hfz19_2
          try clear hfz19_3
          try clear hfz21_0
          try clear hfz21_1
          try clear hfz21_2
          try clear hfz21_3
          try clear hfz21_4
          try clear hfz21_5
          try clear hfz21_6
          try clear hfz21_7
          try clear hfz22_0
          try clear hfz22_1
          try clear hfz22_2
          try clear hfz22_3
          try clear hfz23_0
          try clear hfz23_1
          try clear hfz23_2
          try clear hfz29_0
          try clear hfz29_1
          try clear hfz29_2
          try clear hfz29_3
          try clear hfz30_0
          try clear hfz30_1
          try clear hfz30_2
          try clear hfz30_3
          try clear hfz30_4
          try clear hfz30_5
          try clear hfz30_6
          try clear hfz30_7
          try clear hfz31_0
          try clear hfz31_1
          try clear hfz31_2
          try clear hfz31_3
          try clear hfz33_0
          try clear hfz33_1
          try clear hfz33_2
          try clear hfz33_3
          try clear hfz33_4
          try clear hfz33_5
          try clear hfz33_6
          try clear hfz33_7
          try clear hfz34_0
          try clear hfz34_1
          try clear hfz34_2
          try clear hfz34_3
          try clear hfz43_0
          try clear hfz43_1
          try clear hfz43_2
          try clear hfz43_3
          try clear hfz43_4
          try clear hfz43_5
          try clear hfz43_6
          try clear hfz43_7
          try clear hfz47_0
          try clear hfz47_1
          try clear hfz47_2
          try clear hfz47_3
          try clear hfz47_4
          try clear hfz47_5
          try clear hfz47_6
          try clear hfz47_7
          try clear hfz51_0
          try clear hfz51_1
          try clear hfz51_2
          try clear hfz51_3
          try clear hfz51_4
          try clear hfz51_5
          try clear hfz51_6
          try clear hfz51_7
          try clear hfz54_0
          try clear hfz54_1
          try clear hfz54_2
          try clear hfz54_3
          try clear hfz58_0
          try clear hfz58_1
          try clear hfz58_2
          try clear hfz58_3
          try clear hfz58_4
          try clear hfz58_5
          try clear hfz58_6
          try clear hfz58_7
          try clear hfz67_0
          try clear hfz67_1
          try clear hfz67_2
          try clear hfz70_0
          try clear hfz70_1
          try clear hfz70_2
          try clear hfz70_3
          try clear hfz70_4
          try clear hfz70_5
          try clear hfz70_6
          try clear hfz70_7
          try clear hfz74_0
          try clear hfz74_1
          try clear hfz74_2
          try clear hfz77_0
          try clear hfz77_1
          try clear hfz77_2
          try clear hfz77_3
          try clear hfz77_4
          try clear hfz77_5
          try clear hfz77_6
          try clear hfz77_7
          try clear hfz81_0
          try clear hfz81_1
          try clear hfz81_2
          try clear hfz84_0
          try clear hfz84_1
          try clear hfz84_2
          try clear hfz84_3
          try clear hfz84_4
          try clear hfz84_5
          try clear hfz84_6
          try clear hfz84_7
          try clear hfz88_0
          try clear hfz88_1
          try clear hfz88_2
          try clear hfz92_0
          try clear hfz92_1
          try clear hfz92_2
          try clear p2
          obtain ⟨kq, x13_58, rfl, HA, HJ58, BK284, BK285, BK286, BK293, HB⟩ := hcut
          cases kq with
          | zero => exact absurd HA.out (by simp [chargeparklaw12_ChargerValid.j1])
          | succ kj58 =>
            have H := HA.out
            clear HA
            simp only [chargeparklaw12_ChargerValid.j1] at H
            by_cases c93 : x7_9 = true
            · subst c93
              have H1 : (if t292 = 0 then (some true) else (if a2_0 = 8 then (some false) else (if a2_0 = 9 then (some false) else (some (!x13_58))))) = some r := by rw [if_pos rfl] at H; exact H
              clear H
              have H := H1
              clear H1
              by_cases c94 : t292 = 0
              · rw [if_pos c94] at H
                have c94b0 : (t292 == 0) = true := beq_iff_eq.mpr c94
                have c94b1 : (t292 != 0) = false := bne_eq_false_iff_eq.mpr c94
                clear c94
                obtain rfl := Option.some.inj H
                simp only [Option.some.injEq, Prod.mk.injEq] at H
                obtain ⟨rfl⟩ := H
                go_wp2
                go_ret
                exact ⟨by first | rfl | (simp [errW_none, errW_some] <;> rfl) | (simp [*, errW_none, errW_some] <;> rfl), by repeat (first | (with_reducible first | exact HB.out | apply below_alloc | apply pw_below_drewN | apply below_drew1 | refine below_set ?_ GE284.out | refine below_set ?_ GE285.out | refine below_set ?_ GE286.out | refine below_set ?_ GE293.out) | exact HB.out)⟩
              · rw [if_neg c94] at H
                have c94b0 : (t292 == 0) = false := beq_eq_false_iff_ne.mpr c94
                have c94b1 : (t292 != 0) = true := bne_iff_ne.mpr c94
                by_cases c95 : a2_0 = 8
                · rw [if_pos c95] at H
                  have c95b0 : (a2_0 == 8) = true := beq_iff_eq.mpr c95
                  have c95b1 : (a2_0 != 8) = false := bne_eq_false_iff_eq.mpr c95
                  clear c95
                  obtain rfl := Option.some.inj H
                  exact absurd hr.out (by decide)
                · rw [if_neg c95] at H
                  have c95b0 : (a2_0 == 8) = false := beq_eq_false_iff_ne.mpr c95
                  have c95b1 : (a2_0 != 8) = true := bne_iff_ne.mpr c95
                  by_cases c96 : a2_0 = 9
                  · rw [if_pos c96] at H
                    have c96b0 : (a2_0 == 9) = true := beq_iff_eq.mpr c96
                    have c96b1 : (a2_0 != 9) = false := bne_eq_false_iff_eq.mpr c96
                    clear c96
                    obtain rfl := Option.some.inj H
                    exact absurd hr.out (by decide)
                  · rw [if_neg c96] at H
                    have c96b0 : (a2_0 == 9) = false := beq_eq_false_iff_ne.mpr c96
                    have c96b1 : (a2_0 != 9) = true := bne_iff_ne.mpr c96
                    obtain rfl := Option.some.inj H
                    simp only [Option.some.injEq, Prod.mk.injEq] at H
                    obtain ⟨rfl⟩ := H
                    have hnb97 := NB286_284.out
                    have hnc97 := NB284_286.out
                    have hnb98 := NB286_285.out
                    have hnc98 := NB285_286.out
                    have hnb99 := NB286_293.out
                    have hnc99 := NB293_286.out
                    have hcz100_0 : wc.cell? ⟨gb286, 0, none⟩ = some (.int .i64 a2_0) := (blk_cell BK286.out 0).trans rfl
                    have hcz100_1 : wc.cell? ⟨gb286, 1, none⟩ = some (.int .i64 a2_1) := (blk_cell BK286.out 1).trans rfl
                    have hcz100_2 : wc.cell? ⟨gb286, 2, none⟩ = some (.int .i64 a2_2) := (blk_cell BK286.out 2).trans rfl
                    have hfz100_0 := blk_frozen BK286.out 0
                    have hfz100_1 := blk_frozen BK286.out 1
                    have hfz100_2 := blk_frozen BK286.out 2
                    go_wp2
                    go_ret
                    exact ⟨by first | rfl | (simp [errW_none, errW_some] <;> rfl) | (simp [*, errW_none, errW_some] <;> rfl), by repeat (first | (with_reducible first | exact HB.out | apply below_alloc | apply pw_below_drewN | apply below_drew1 | refine below_set ?_ GE284.out | refine below_set ?_ GE285.out | refine below_set ?_ GE286.out | refine below_set ?_ GE293.out) | exact HB.out)⟩
            · replace c93 := Bool.eq_false_iff.mpr c93
              subst c93
              have H1 : (some false) = some r := by rw [if_neg (show ¬ (false = true) by decide)] at H; exact H
              clear H
              have H := H1
              clear H1
              obtain rfl := Option.some.inj H
              exact absurd hr.out (by decide)
  · replace c6 := Bool.eq_false_iff.mpr c6
    subst c6
    have H1 : (some true) = some r := by rw [if_neg (show ¬ (false = true) by decide)] at H; exact H
    clear H
    have H := H1
    clear H1
    obtain rfl := Option.some.inj H
    simp only [Option.some.injEq, Prod.mk.injEq] at H
    obtain ⟨rfl⟩ := H
    go_enter Tryd.func6, Tryd.ntmps6
    go_wp2_with (first | ((with_reducible refine gate_dst (N := 3) rfl ?_); refine box_event ?hg (N := 3) ?hd (cs := #[.string a0_0, .int .i64 a0_1, .int .i64 a0_2, .int .i64 a0_3, .int .i64 a0_4, .int .i64 a0_5, .int .i64 a0_6, .int .i64 a0_7]) (t := 23) ?hr ?_; (case hd => rfl); (case hg => rfl); (case hr => first | (go_simp; done) | (go_simp; rfl)); intro gb284 hg w101 hbox hb; have n0_ := Aside0.mk (below_step (by repeat (first | (with_reducible first | exact HB.out | apply below_alloc | apply pw_below_drewN | apply below_drew1) | exact HB.out)) hb); have n1_ := Aside0.mk (hbox); have n2_ := Aside0.mk ((by rw [hg]; exact (below_size (by repeat (first | (with_reducible first | exact HB.out | apply below_alloc | apply pw_below_drewN | apply below_drew1) | exact HB.out))) : w.heap.size ≤ gb284)); have n3_ := Aside0.mk ((by rw [hg]; exact (below_size (by repeat (first | (with_reducible first | exact HB.out | apply below_alloc | apply pw_below_drewN | apply below_drew1) | exact HB.out))) : w.heap.size ≤ gb284)); clear HB; have HB := n0_; have BK284 := n1_; have GW284 := n2_; have GE284 := n3_; clear n0_ n1_ n2_ n3_; clear hb hbox hg) | ((with_reducible refine gate_dst (N := 4) rfl ?_); refine box_event ?hg (N := 4) ?hd (cs := #[.int .i64 a1_0, .int .i64 a1_1, .int .i64 a1_2, .bool a1_3]) (t := 25) ?hr ?_; (case hd => rfl); (case hg => rfl); (case hr => first | (go_simp; done) | (go_simp; rfl)); intro gb285 hg w102 hbox hb; have n0_ := Aside0.mk (blk_below (g := gb284) (o := .cells #[.string a0_0, .int .i64 a0_1, .int .i64 a0_2, .int .i64 a0_3, .int .i64 a0_4, .int .i64 a0_5, .int .i64 a0_6, .int .i64 a0_7] 23 (0, 0)) (by (with_reducible repeat (first | refine blk_drewN ?_ _ | refine blk_drew ?_ | refine blk_alloc ?_ _)); exact BK284.out) hb); have n1_ := Aside0.mk (below_step (by repeat (first | (with_reducible first | exact HB.out | apply below_alloc | apply pw_below_drewN | apply below_drew1 | refine below_set ?_ GE284.out) | exact HB.out)) hb); have n2_ := Aside0.mk (hbox); have n3_ := Aside0.mk ((by rw [hg]; exact (below_size (by repeat (first | (with_reducible first | exact HB.out | apply below_alloc | apply pw_below_drewN | apply below_drew1 | refine below_set ?_ GE284.out) | exact HB.out))) : w.heap.size ≤ gb285)); have n4_ := Aside0.mk ((by rw [hg]; exact (below_size (by repeat (first | (with_reducible first | exact HB.out | apply below_alloc | apply pw_below_drewN | apply below_drew1 | refine below_set ?_ GE284.out) | exact HB.out))) : w.heap.size ≤ gb285)); have n5_ := Aside0.mk ((by rw [hg]; exact Nat.ne_of_lt (blk_lt (g := gb284) (o := .cells #[.string a0_0, .int .i64 a0_1, .int .i64 a0_2, .int .i64 a0_3, .int .i64 a0_4, .int .i64 a0_5, .int .i64 a0_6, .int .i64 a0_7] 23 (0, 0)) (by (with_reducible repeat (first | refine blk_drewN ?_ _ | refine blk_drew ?_ | refine blk_alloc ?_ _)); exact BK284.out)) : gb284 ≠ gb285)); have n6_ := Aside0.mk ((by rw [hg]; exact Nat.ne_of_gt (blk_lt (g := gb284) (o := .cells #[.string a0_0, .int .i64 a0_1, .int .i64 a0_2, .int .i64 a0_3, .int .i64 a0_4, .int .i64 a0_5, .int .i64 a0_6, .int .i64 a0_7] 23 (0, 0)) (by (with_reducible repeat (first | refine blk_drewN ?_ _ | refine blk_drew ?_ | refine blk_alloc ?_ _)); exact BK284.out)) : gb285 ≠ gb284)); clear BK284; clear HB; have BK284 := n0_; have HB := n1_; have BK285 := n2_; have GW285 := n3_; have GE285 := n4_; have NB284_285 := n5_; have NB285_284 := n6_; clear n0_ n1_ n2_ n3_ n4_ n5_ n6_; clear hb hbox hg) | ((with_reducible refine gate_dst (N := 5) rfl ?_); refine box_event ?hg (N := 5) ?hd (cs := #[.int .i64 a2_0, .int .i64 a2_1, .int .i64 a2_2]) (t := 27) ?hr ?_; (case hd => rfl); (case hg => rfl); (case hr => first | (go_simp; done) | (go_simp; rfl)); intro gb286 hg w103 hbox hb; have n0_ := Aside0.mk (blk_below (g := gb284) (o := .cells #[.string a0_0, .int .i64 a0_1, .int .i64 a0_2, .int .i64 a0_3, .int .i64 a0_4, .int .i64 a0_5, .int .i64 a0_6, .int .i64 a0_7] 23 (0, 0)) (by (with_reducible repeat (first | refine blk_drewN ?_ _ | refine blk_drew ?_ | refine blk_alloc ?_ _)); exact BK284.out) hb); have n1_ := Aside0.mk (blk_below (g := gb285) (o := .cells #[.int .i64 a1_0, .int .i64 a1_1, .int .i64 a1_2, .bool a1_3] 25 (0, 0)) (by (with_reducible repeat (first | refine blk_drewN ?_ _ | refine blk_drew ?_ | refine blk_alloc ?_ _)); exact BK285.out) hb); have n2_ := Aside0.mk (below_step (by repeat (first | (with_reducible first | exact HB.out | apply below_alloc | apply pw_below_drewN | apply below_drew1 | refine below_set ?_ GE284.out | refine below_set ?_ GE285.out) | exact HB.out)) hb); have n3_ := Aside0.mk (hbox); have n4_ := Aside0.mk ((by rw [hg]; exact (below_size (by repeat (first | (with_reducible first | exact HB.out | apply below_alloc | apply pw_below_drewN | apply below_drew1 | refine below_set ?_ GE284.out | refine below_set ?_ GE285.out) | exact HB.out))) : w.heap.size ≤ gb286)); have n5_ := Aside0.mk ((by rw [hg]; exact (below_size (by repeat (first | (with_reducible first | exact HB.out | apply below_alloc | apply pw_below_drewN | apply below_drew1 | refine below_set ?_ GE284.out | refine below_set ?_ GE285.out) | exact HB.out))) : w.heap.size ≤ gb286)); have n6_ := Aside0.mk ((by rw [hg]; exact Nat.ne_of_lt (blk_lt (g := gb284) (o := .cells #[.string a0_0, .int .i64 a0_1, .int .i64 a0_2, .int .i64 a0_3, .int .i64 a0_4, .int .i64 a0_5, .int .i64 a0_6, .int .i64 a0_7] 23 (0, 0)) (by (with_reducible repeat (first | refine blk_drewN ?_ _ | refine blk_drew ?_ | refine blk_alloc ?_ _)); exact BK284.out)) : gb284 ≠ gb286)); have n7_ := Aside0.mk ((by rw [hg]; exact Nat.ne_of_gt (blk_lt (g := gb284) (o := .cells #[.string a0_0, .int .i64 a0_1, .int .i64 a0_2, .int .i64 a0_3, .int .i64 a0_4, .int .i64 a0_5, .int .i64 a0_6, .int .i64 a0_7] 23 (0, 0)) (by (with_reducible repeat (first | refine blk_drewN ?_ _ | refine blk_drew ?_ | refine blk_alloc ?_ _)); exact BK284.out)) : gb286 ≠ gb284)); have n8_ := Aside0.mk ((by rw [hg]; exact Nat.ne_of_lt (blk_lt (g := gb285) (o := .cells #[.int .i64 a1_0, .int .i64 a1_1, .int .i64 a1_2, .bool a1_3] 25 (0, 0)) (by (with_reducible repeat (first | refine blk_drewN ?_ _ | refine blk_drew ?_ | refine blk_alloc ?_ _)); exact BK285.out)) : gb285 ≠ gb286)); have n9_ := Aside0.mk ((by rw [hg]; exact Nat.ne_of_gt (blk_lt (g := gb285) (o := .cells #[.int .i64 a1_0, .int .i64 a1_1, .int .i64 a1_2, .bool a1_3] 25 (0, 0)) (by (with_reducible repeat (first | refine blk_drewN ?_ _ | refine blk_drew ?_ | refine blk_alloc ?_ _)); exact BK285.out)) : gb286 ≠ gb285)); clear BK284; clear BK285; clear HB; have BK284 := n0_; have BK285 := n1_; have HB := n2_; have BK286 := n3_; have GW286 := n4_; have GE286 := n5_; have NB284_286 := n6_; have NB286_284 := n7_; have NB285_286 := n8_; have NB286_285 := n9_; clear n0_ n1_ n2_ n3_ n4_ n5_ n6_ n7_ n8_ n9_; clear hb hbox hg) | ((with_reducible refine gate_callee (f := 10) rfl ?_); refine goesL_ (some 14) rfl rfl Tryd.func10 (by kernel_rfl) rfl #[] rfl (by (try simp only [List.map_toArray, List.map_cons, List.map_nil]); first | done | rfl | (simp only [List.length_drop, List.length_take]; rfl)) ?_; (with_reducible refine (chargeparklaw12_head_c.calls  true _ (hG.below (by repeat (first | (with_reducible first | exact HB.out | apply below_alloc | apply pw_below_drewN | apply below_drew1) | exact HB.out | (refine Below.setCell ?_ (Aside0.out (by assumption)) _)))) A4.out).mono ?_); rintro e w104 ⟨rfl, hb⟩; refine ⟨_, rfl, ?_⟩; have n0_ := Aside0.mk (blk_below (g := gb284) (o := .cells #[.string a0_0, .int .i64 a0_1, .int .i64 a0_2, .int .i64 a0_3, .int .i64 a0_4, .int .i64 a0_5, .int .i64 a0_6, .int .i64 a0_7] 23 (0, 0)) (by (with_reducible repeat (first | refine blk_drewN ?_ _ | refine blk_drew ?_ | refine blk_alloc ?_ _)); exact BK284.out) hb); have n1_ := Aside0.mk (blk_below (g := gb285) (o := .cells #[.int .i64 a1_0, .int .i64 a1_1, .int .i64 a1_2, .bool a1_3] 25 (0, 0)) (by (with_reducible repeat (first | refine blk_drewN ?_ _ | refine blk_drew ?_ | refine blk_alloc ?_ _)); exact BK285.out) hb); have n2_ := Aside0.mk (blk_below (g := gb286) (o := .cells #[.int .i64 a2_0, .int .i64 a2_1, .int .i64 a2_2] 27 (0, 0)) (by (with_reducible repeat (first | refine blk_drewN ?_ _ | refine blk_drew ?_ | refine blk_alloc ?_ _)); exact BK286.out) hb); have n3_ := Aside0.mk (below_step (by repeat (first | (with_reducible first | exact HB.out | apply below_alloc | apply pw_below_drewN | apply below_drew1 | refine below_set ?_ GE284.out | refine below_set ?_ GE285.out | refine below_set ?_ GE286.out) | exact HB.out)) hb); clear BK284; clear BK285; clear BK286; clear HB; have BK284 := n0_; have BK285 := n1_; have BK286 := n2_; have HB := n3_; clear n0_ n1_ n2_ n3_; (try clear hb); (try clear hb2); (try clear hk); (try clear hi); have hnb105 := NB284_285.out; have hnc105 := NB285_284.out; have hnb106 := NB284_286.out; have hnc106 := NB286_284.out; have hcz107_0 : w104.cell? ⟨gb284, 0, none⟩ = some (.string a0_0) := (blk_cell BK284.out 0).trans rfl; have hcz107_1 : w104.cell? ⟨gb284, 1, none⟩ = some (.int .i64 a0_1) := (blk_cell BK284.out 1).trans rfl; have hcz107_2 : w104.cell? ⟨gb284, 2, none⟩ = some (.int .i64 a0_2) := (blk_cell BK284.out 2).trans rfl; have hcz107_3 : w104.cell? ⟨gb284, 3, none⟩ = some (.int .i64 a0_3) := (blk_cell BK284.out 3).trans rfl; have hcz107_4 : w104.cell? ⟨gb284, 4, none⟩ = some (.int .i64 a0_4) := (blk_cell BK284.out 4).trans rfl; have hcz107_5 : w104.cell? ⟨gb284, 5, none⟩ = some (.int .i64 a0_5) := (blk_cell BK284.out 5).trans rfl; have hcz107_6 : w104.cell? ⟨gb284, 6, none⟩ = some (.int .i64 a0_6) := (blk_cell BK284.out 6).trans rfl; have hcz107_7 : w104.cell? ⟨gb284, 7, none⟩ = some (.int .i64 a0_7) := (blk_cell BK284.out 7).trans rfl; have hfz107_0 := blk_frozen BK284.out 0; have hfz107_1 := blk_frozen BK284.out 1; have hfz107_2 := blk_frozen BK284.out 2; have hfz107_3 := blk_frozen BK284.out 3; have hfz107_4 := blk_frozen BK284.out 4; have hfz107_5 := blk_frozen BK284.out 5; have hfz107_6 := blk_frozen BK284.out 6; have hfz107_7 := blk_frozen BK284.out 7; have hnb108 := NB285_286.out; have hnc108 := NB286_285.out; have hcz109_0 : w104.cell? ⟨gb285, 0, none⟩ = some (.int .i64 a1_0) := (blk_cell BK285.out 0).trans rfl; have hcz109_1 : w104.cell? ⟨gb285, 1, none⟩ = some (.int .i64 a1_1) := (blk_cell BK285.out 1).trans rfl; have hcz109_2 : w104.cell? ⟨gb285, 2, none⟩ = some (.int .i64 a1_2) := (blk_cell BK285.out 2).trans rfl; have hcz109_3 : w104.cell? ⟨gb285, 3, none⟩ = some (.bool a1_3) := (blk_cell BK285.out 3).trans rfl; have hfz109_0 := blk_frozen BK285.out 0; have hfz109_1 := blk_frozen BK285.out 1; have hfz109_2 := blk_frozen BK285.out 2; have hfz109_3 := blk_frozen BK285.out 3) | ((with_reducible refine gate_callee (f := 14) rfl ?_); refine goesL_ (some 17) rfl rfl Tryd.func14 (by kernel_rfl) rfl #[.agg #[.string a0_0, .int .i64 a0_1, .int .i64 a0_2, .int .i64 a0_3, .int .i64 a0_4, .int .i64 a0_5, .int .i64 a0_6, .int .i64 a0_7], .agg #[.int .i64 a1_0, .int .i64 a1_1, .int .i64 a1_2, .bool a1_3]] rfl (by (try simp only [List.map_toArray, List.map_cons, List.map_nil]); first | done | rfl | (simp only [List.length_drop, List.length_take]; rfl)) ?_; (with_reducible refine (chargeparkref12_Valid.calls k a0_0 a0_1 a0_2 a0_3 a0_4 a0_5 a0_6 a0_7 a1_0 a1_1 a1_2 a1_3 false _ A5.out).mono ?_); rintro e w110 ⟨rfl, hb⟩; refine ⟨_, rfl, ?_⟩; have n0_ := Aside0.mk (blk_below (g := gb284) (o := .cells #[.string a0_0, .int .i64 a0_1, .int .i64 a0_2, .int .i64 a0_3, .int .i64 a0_4, .int .i64 a0_5, .int .i64 a0_6, .int .i64 a0_7] 23 (0, 0)) (by (with_reducible repeat (first | refine blk_drewN ?_ _ | refine blk_drew ?_ | refine blk_alloc ?_ _)); exact BK284.out) hb); have n1_ := Aside0.mk (blk_below (g := gb285) (o := .cells #[.int .i64 a1_0, .int .i64 a1_1, .int .i64 a1_2, .bool a1_3] 25 (0, 0)) (by (with_reducible repeat (first | refine blk_drewN ?_ _ | refine blk_drew ?_ | refine blk_alloc ?_ _)); exact BK285.out) hb); have n2_ := Aside0.mk (blk_below (g := gb286) (o := .cells #[.int .i64 a2_0, .int .i64 a2_1, .int .i64 a2_2] 27 (0, 0)) (by (with_reducible repeat (first | refine blk_drewN ?_ _ | refine blk_drew ?_ | refine blk_alloc ?_ _)); exact BK286.out) hb); have n3_ := Aside0.mk (below_step (by repeat (first | (with_reducible first | exact HB.out | apply below_alloc | apply pw_below_drewN | apply below_drew1 | refine below_set ?_ GE284.out | refine below_set ?_ GE285.out | refine below_set ?_ GE286.out) | exact HB.out)) hb); clear BK284; clear BK285; clear BK286; clear HB; have BK284 := n0_; have BK285 := n1_; have BK286 := n2_; have HB := n3_; clear n0_ n1_ n2_ n3_; (try clear hb); (try clear hb2); (try clear hk); (try clear hi)))
    go_ret
    exact ⟨by first | rfl | (simp [errW_none, errW_some] <;> rfl) | (simp [*, errW_none, errW_some] <;> rfl), by repeat (first | (with_reducible first | exact HB.out | apply below_alloc | apply pw_below_drewN | apply below_drew1 | refine below_set ?_ GE284.out | refine below_set ?_ GE285.out | refine below_set ?_ GE286.out) | exact HB.out)⟩

end Go.Proofs.YtnfanhnflcjphaaDoor.PAll
