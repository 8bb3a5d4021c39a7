/- What the Go functions of this seat's laws return, told as Lean functions and proved by their walks; laid by a program of this session out of Lean's own print of the translation. No conditions of its own. -/
import Derived.Test.YtnfanhnflcjphaaDoorPAllx0
import Derived.Test.YtnfanhnflcjphaaDoorPAllx1
import Derived.Test.YtnfanhnflcjphaaDoorPAllx3
import Derived.Test.YtnfanhnflcjphaaDoorPAllx6
import Derived.Test.YtnfanhnflcjphaaDoorPAllx7
namespace Go.Proofs.YtnfanhnflcjphaaDoor.PAll
open Go.RowKit Go.Proofs.YtnfanhnflcjphaaDoorW.PrintWords Go.Proofs.YtnfanhnflcjphaaDoorW.PrintLast Go.Proofs.YtnfanhnflcjphaaDoorW.PrintMore
attribute [local go_sem] max2_int min2_int max_two min_two max_three min_three max_four min_four   -- for this text's walks alone
set_option linter.unusedVariables false
set_option linter.unusedSimpArgs false

attribute [local go_sem high] eqA25
/-! ### chargeparklaw12_ChargerExchanged: function 9 -/
mutual
def chargeparklaw12_ChargerExchanged.j0 : Nat → Bool → Bool → ByteArray → Int → Int → Int → Int → Int → Int → Int → Int → Int → Int → Bool → Int → Int → Int → Int → Int → Int → Option (Bool)
  | 0, _, _, _, _, _, _, _, _, _, _, _, _, _, _, _, _, _, _, _, _ => none
  | k + 1, x9, x46, x328000, x328001, x328002, x328003, x328004, x328005, x328006, x328007, x329000, x329001, x329002, x329003, x330000, x330001, x330002, x331000, x331001, x331002 => if x46 = true then (some x9) else ((charger_Step.f x328000 x328001 x328002 x328003 x328004 x328005 x328006 x328007 x329000 x329001 x329002 x329003 x330000 x330001 x330002).bind fun bt332 => ((charger_Step.f x328000 x328001 x328002 x328003 x328004 x328005 x328006 x328007 x329000 x329001 x329002 x329003 x331000 x331001 x331002).bind fun bt338 => (if bt332.2.2.2.2 = 0 then (chargeparklaw12_ChargerExchanged.j1 k x9 bt332.2.2.2.2 bt338.2.2.2.2 (bt338.2.2.2.2 != 0) x328000 x328001 x328002 x328003 x328004 x328005 x328006 x328007 x330000 x330001 x330002 x331000 x331001 x331002 bt332.1 bt332.2.1 bt332.2.2.1 bt332.2.2.2.1 bt338.1 bt338.2.1 bt338.2.2.1 bt338.2.2.2.1) else (chargeparklaw12_ChargerExchanged.j1 k x9 bt332.2.2.2.2 bt338.2.2.2.2 true x328000 x328001 x328002 x328003 x328004 x328005 x328006 x328007 x330000 x330001 x330002 x331000 x331001 x331002 bt332.1 bt332.2.1 bt332.2.2.1 bt332.2.2.2.1 bt338.1 bt338.2.1 bt338.2.2.1 bt338.2.2.2.1))))
def chargeparklaw12_ChargerExchanged.j1 : Nat → Bool → Int → Int → Bool → ByteArray → Int → Int → Int → Int → Int → Int → Int → Int → Int → Int → Int → Int → Int → Int → Int → Int → Bool → Int → Int → Int → Bool → Option (Bool)
  | 0, _, _, _, _, _, _, _, _, _, _, _, _, _, _, _, _, _, _, _, _, _, _, _, _, _, _ => none
  | k + 1, x9, x12, x14, x67, x328000, x328001, x328002, x328003, x328004, x328005, x328006, x328007, x330000, x330001, x330002, x331000, x331001, x331002, x338000, x338001, x338002, x338003, x344000, x344001, x344002, x344003 => if x67 = true then (if x14 = 0 then ((charger_Step.f x328000 x328001 x328002 x328003 x328004 x328005 x328006 x328007 x344000 x344001 x344002 x344003 x330000 x330001 x330002).bind fun bt344 => (if x9 = true then (some (bt344.2.2.2.2 == x12)) else (some false))) else (some x9)) else ((charger_Step.f x328000 x328001 x328002 x328003 x328004 x328005 x328006 x328007 x338000 x338001 x338002 x338003 x331000 x331001 x331002).bind fun bt350 => ((charger_Step.f x328000 x328001 x328002 x328003 x328004 x328005 x328006 x328007 x344000 x344001 x344002 x344003 x330000 x330001 x330002).bind fun bt356 => (if x9 = true then (if bt350.2.2.2.2 = 0 then (if bt356.2.2.2.2 = 0 then (some (bt350.1 == bt356.1 && (bt350.2.1 == bt356.2.1 && (bt350.2.2.1 == bt356.2.2.1 && (bt350.2.2.2.1 == bt356.2.2.2.1))))) else (some false)) else (some false)) else (some false))))
end
def chargeparklaw12_ChargerExchanged.f (k : Nat) (a0_0 : ByteArray) (a0_1 : Int) (a0_2 : Int) (a0_3 : Int) (a0_4 : Int) (a0_5 : Int) (a0_6 : Int) (a0_7 : Int) (a1_0 : Int) (a1_1 : Int) (a1_2 : Int) (a1_3 : Bool) (a2_0 : Int) (a2_1 : Int) (a2_2 : Int) (a3_0 : Int) (a3_1 : Int) (a3_2 : Int) : Option (Bool) := (chargeparklaw12_head_c.f).bind fun _ => ((chargeparkref12_Valid.f k a0_0 a0_1 a0_2 a0_3 a0_4 a0_5 a0_6 a0_7 a1_0 a1_1 a1_2 a1_3).bind fun t331 => (if t331 = true then (if a2_0 < 1 then (chargeparklaw12_ChargerExchanged.j0 k true true a0_0 a0_1 a0_2 a0_3 a0_4 a0_5 a0_6 a0_7 a1_0 a1_1 a1_2 a1_3 a2_0 a2_1 a2_2 a3_0 a3_1 a3_2) else (if a2_0 > 6 then (chargeparklaw12_ChargerExchanged.j0 k true true a0_0 a0_1 a0_2 a0_3 a0_4 a0_5 a0_6 a0_7 a1_0 a1_1 a1_2 a1_3 a2_0 a2_1 a2_2 a3_0 a3_1 a3_2) else (if a3_0 = 7 then (chargeparklaw12_ChargerExchanged.j0 k true false a0_0 a0_1 a0_2 a0_3 a0_4 a0_5 a0_6 a0_7 a1_0 a1_1 a1_2 a1_3 a2_0 a2_1 a2_2 a3_0 a3_1 a3_2) else (chargeparklaw12_ChargerExchanged.j0 k true (a3_0 != 8) a0_0 a0_1 a0_2 a0_3 a0_4 a0_5 a0_6 a0_7 a1_0 a1_1 a1_2 a1_3 a2_0 a2_1 a2_2 a3_0 a3_1 a3_2)))) else (chargeparklaw12_ChargerExchanged.j0 k true true a0_0 a0_1 a0_2 a0_3 a0_4 a0_5 a0_6 a0_7 a1_0 a1_1 a1_2 a1_3 a2_0 a2_1 a2_2 a3_0 a3_1 a3_2)))
theorem chargeparklaw12_ChargerExchanged.mono_l : ∀ k, (∀ y0 y1 y2 y3 y4 y5 y6 y7 y8 y9 y10 y11 y12 y13 y14 y15 y16 y17 y18 y19, LeO (chargeparklaw12_ChargerExchanged.j0 k y0 y1 y2 y3 y4 y5 y6 y7 y8 y9 y10 y11 y12 y13 y14 y15 y16 y17 y18 y19) (chargeparklaw12_ChargerExchanged.j0 (k + 1) y0 y1 y2 y3 y4 y5 y6 y7 y8 y9 y10 y11 y12 y13 y14 y15 y16 y17 y18 y19)) ∧ (∀ y0 y1 y2 y3 y4 y5 y6 y7 y8 y9 y10 y11 y12 y13 y14 y15 y16 y17 y18 y19 y20 y21 y22 y23 y24 y25, LeO (chargeparklaw12_ChargerExchanged.j1 k y0 y1 y2 y3 y4 y5 y6 y7 y8 y9 y10 y11 y12 y13 y14 y15 y16 y17 y18 y19 y20 y21 y22 y23 y24 y25) (chargeparklaw12_ChargerExchanged.j1 (k + 1) y0 y1 y2 y3 y4 y5 y6 y7 y8 y9 y10 y11 y12 y13 y14 y15 y16 y17 y18 y19 y20 y21 y22 y23 y24 y25))
  | 0 => ⟨fun _ _ _ _ _ _ _ _ _ _ _ _ _ _ _ _ _ _ _ _ r h => by simp [chargeparklaw12_ChargerExchanged.j0] at h, fun _ _ _ _ _ _ _ _ _ _ _ _ _ _ _ _ _ _ _ _ _ _ _ _ _ _ r h => by simp [chargeparklaw12_ChargerExchanged.j1] at h⟩
  | k + 1 => by
    obtain ⟨ih0, ih1⟩ := chargeparklaw12_ChargerExchanged.mono_l k
    refine ⟨?_, ?_⟩
    · intro y0 y1 y2 y3 y4 y5 y6 y7 y8 y9 y10 y11 y12 y13 y14 y15 y16 y17 y18 y19
      unfold chargeparklaw12_ChargerExchanged.j0
      repeat' first
      | (with_reducible exact ih0 _ _ _ _ _ _ _ _ _ _ _ _ _ _ _ _ _ _ _ _)
      | (with_reducible exact ih1 _ _ _ _ _ _ _ _ _ _ _ _ _ _ _ _ _ _ _ _ _ _ _ _ _ _)
      | (with_reducible exact chargeparkref12_Valid.mono _ _ _ _ _ _ _ _ _ _ _ _ _)
      | (with_reducible exact LeO.refl _)
      | (with_reducible exact LeO.none _)
      | (with_reducible refine LeO.ite ?_ ?_)
      | (with_reducible refine LeO.bind ?_ (fun _ => ?_))
      | exact ih0 _ _ _ _ _ _ _ _ _ _ _ _ _ _ _ _ _ _ _ _
      | exact ih1 _ _ _ _ _ _ _ _ _ _ _ _ _ _ _ _ _ _ _ _ _ _ _ _ _ _
      | exact chargeparkref12_Valid.mono _ _ _ _ _ _ _ _ _ _ _ _ _
      | exact LeO.none _
      | refine LeO.ite ?_ ?_
      | refine LeO.bind ?_ (fun _ => ?_)
    · intro y0 y1 y2 y3 y4 y5 y6 y7 y8 y9 y10 y11 y12 y13 y14 y15 y16 y17 y18 y19 y20 y21 y22 y23 y24 y25
      unfold chargeparklaw12_ChargerExchanged.j1
      repeat' first
      | (with_reducible exact ih0 _ _ _ _ _ _ _ _ _ _ _ _ _ _ _ _ _ _ _ _)
      | (with_reducible exact ih1 _ _ _ _ _ _ _ _ _ _ _ _ _ _ _ _ _ _ _ _ _ _ _ _ _ _)
      | (with_reducible exact chargeparkref12_Valid.mono _ _ _ _ _ _ _ _ _ _ _ _ _)
      | (with_reducible exact LeO.refl _)
      | (with_reducible exact LeO.none _)
      | (with_reducible refine LeO.ite ?_ ?_)
      | (with_reducible refine LeO.bind ?_ (fun _ => ?_))
      | exact ih0 _ _ _ _ _ _ _ _ _ _ _ _ _ _ _ _ _ _ _ _
      | exact ih1 _ _ _ _ _ _ _ _ _ _ _ _ _ _ _ _ _ _ _ _ _ _ _ _ _ _
      | exact chargeparkref12_Valid.mono _ _ _ _ _ _ _ _ _ _ _ _ _
      | exact LeO.none _
      | refine LeO.ite ?_ ?_
      | refine LeO.bind ?_ (fun _ => ?_)
theorem chargeparklaw12_ChargerExchanged.mono : ∀ a0 a1 a2 a3 a4 a5 a6 a7 a8 a9 a10 a11 a12 a13 a14 a15 a16 a17 k, LeO (chargeparklaw12_ChargerExchanged.f k a0 a1 a2 a3 a4 a5 a6 a7 a8 a9 a10 a11 a12 a13 a14 a15 a16 a17) (chargeparklaw12_ChargerExchanged.f (k + 1) a0 a1 a2 a3 a4 a5 a6 a7 a8 a9 a10 a11 a12 a13 a14 a15 a16 a17) := by
  intro a0 a1 a2 a3 a4 a5 a6 a7 a8 a9 a10 a11 a12 a13 a14 a15 a16 a17 k
  obtain ⟨ih0, ih1⟩ := chargeparklaw12_ChargerExchanged.mono_l k
  unfold chargeparklaw12_ChargerExchanged.f
  repeat' first
      | (with_reducible exact ih0 _ _ _ _ _ _ _ _ _ _ _ _ _ _ _ _ _ _ _ _)
      | (with_reducible exact ih1 _ _ _ _ _ _ _ _ _ _ _ _ _ _ _ _ _ _ _ _ _ _ _ _ _ _)
      | (with_reducible exact chargeparkref12_Valid.mono _ _ _ _ _ _ _ _ _ _ _ _ _)
      | (with_reducible exact LeO.refl _)
      | (with_reducible exact LeO.none _)
      | (with_reducible refine LeO.ite ?_ ?_)
      | (with_reducible refine LeO.bind ?_ (fun _ => ?_))
      | exact ih0 _ _ _ _ _ _ _ _ _ _ _ _ _ _ _ _ _ _ _ _
      | exact ih1 _ _ _ _ _ _ _ _ _ _ _ _ _ _ _ _ _ _ _ _ _ _ _ _ _ _
      | exact chargeparkref12_Valid.mono _ _ _ _ _ _ _ _ _ _ _ _ _
      | exact LeO.none _
      | refine LeO.ite ?_ ?_
      | refine LeO.bind ?_ (fun _ => ?_)
set_option maxHeartbeats 8000000 in
set_option maxRecDepth 100000 in
theorem chargeparklaw12_ChargerExchanged.calls (k : Nat) (a0_0 : ByteArray) (a0_1 : Int) (a0_2 : Int) (a0_3 : Int) (a0_4 : Int) (a0_5 : Int) (a0_6 : Int) (a0_7 : Int) (a1_0 : Int) (a1_1 : Int) (a1_2 : Int) (a1_3 : Bool) (a2_0 : Int) (a2_1 : Int) (a2_2 : Int) (a3_0 : Int) (a3_1 : Int) (a3_2 : Int) (r : Bool) (w : World) (hG : Hand.G w) (h : chargeparklaw12_ChargerExchanged.f k a0_0 a0_1 a0_2 a0_3 a0_4 a0_5 a0_6 a0_7 a1_0 a1_1 a1_2 a1_3 a2_0 a2_1 a2_2 a3_0 a3_1 a3_2 = some r) (hr : Aside0 (r = true)) :
    Calls Tryd.prog 9 #[.agg #[.string a0_0, .int .i64 a0_1, .int .i64 a0_2, .int .i64 a0_3, .int .i64 a0_4, .int .i64 a0_5, .int .i64 a0_6, .int .i64 a0_7], .agg #[.int .i64 a1_0, .int .i64 a1_1, .int .i64 a1_2, .bool a1_3], .agg #[.int .i64 a2_0, .int .i64 a2_1, .int .i64 a2_2], .agg #[.int .i64 a3_0, .int .i64 a3_1, .int .i64 a3_2]] w fun e w' => e = .returned (.bool r) ∧ Below w.heap.size w w' := by
  have hu23 := Tryd.underlying23
  have hu25 := Tryd.underlying25
  have hu27 := Tryd.underlying27
  have HB := Aside0.mk (Below.refl w.heap.size w)
  have H : ((chargeparklaw12_head_c.f).bind fun _ => ((chargeparkref12_Valid.f k a0_0 a0_1 a0_2 a0_3 a0_4 a0_5 a0_6 a0_7 a1_0 a1_1 a1_2 a1_3).bind fun t331 => (if t331 = true then (if a2_0 < 1 then (chargeparklaw12_ChargerExchanged.j0 k true true a0_0 a0_1 a0_2 a0_3 a0_4 a0_5 a0_6 a0_7 a1_0 a1_1 a1_2 a1_3 a2_0 a2_1 a2_2 a3_0 a3_1 a3_2) else (if a2_0 > 6 then (chargeparklaw12_ChargerExchanged.j0 k true true a0_0 a0_1 a0_2 a0_3 a0_4 a0_5 a0_6 a0_7 a1_0 a1_1 a1_2 a1_3 a2_0 a2_1 a2_2 a3_0 a3_1 a3_2) else (if a3_0 = 7 then (chargeparklaw12_ChargerExchanged.j0 k true false a0_0 a0_1 a0_2 a0_3 a0_4 a0_5 a0_6 a0_7 a1_0 a1_1 a1_2 a1_3 a2_0 a2_1 a2_2 a3_0 a3_1 a3_2) else (chargeparklaw12_ChargerExchanged.j0 k true (a3_0 != 8) a0_0 a0_1 a0_2 a0_3 a0_4 a0_5 a0_6 a0_7 a1_0 a1_1 a1_2 a1_3 a2_0 a2_1 a2_2 a3_0 a3_1 a3_2)))) else (chargeparklaw12_ChargerExchanged.j0 k true true a0_0 a0_1 a0_2 a0_3 a0_4 a0_5 a0_6 a0_7 a1_0 a1_1 a1_2 a1_3 a2_0 a2_1 a2_2 a3_0 a3_1 a3_2)))) = some r := h
  clear h
  replace H := Option.bind_eq_some_iff.mp H
  obtain ⟨tc_, A50, H⟩ := H
  obtain rfl : true = tc_ := Option.some.inj ((show chargeparklaw12_head_c.f = some true by kernel_rfl).symm.trans A50)
  replace H : ((chargeparkref12_Valid.f k a0_0 a0_1 a0_2 a0_3 a0_4 a0_5 a0_6 a0_7 a1_0 a1_1 a1_2 a1_3).bind fun t331 => (if t331 = true then (if a2_0 < 1 then (chargeparklaw12_ChargerExchanged.j0 k true true a0_0 a0_1 a0_2 a0_3 a0_4 a0_5 a0_6 a0_7 a1_0 a1_1 a1_2 a1_3 a2_0 a2_1 a2_2 a3_0 a3_1 a3_2) else (if a2_0 > 6 then (chargeparklaw12_ChargerExchanged.j0 k true true a0_0 a0_1 a0_2 a0_3 a0_4 a0_5 a0_6 a0_7 a1_0 a1_1 a1_2 a1_3 a2_0 a2_1 a2_2 a3_0 a3_1 a3_2) else (if a3_0 = 7 then (chargeparklaw12_ChargerExchanged.j0 k true false a0_0 a0_1 a0_2 a0_3 a0_4 a0_5 a0_6 a0_7 a1_0 a1_1 a1_2 a1_3 a2_0 a2_1 a2_2 a3_0 a3_1 a3_2) else (chargeparklaw12_ChargerExchanged.j0 k true (a3_0 != 8) a0_0 a0_1 a0_2 a0_3 a0_4 a0_5 a0_6 a0_7 a1_0 a1_1 a1_2 a1_3 a2_0 a2_1 a2_2 a3_0 a3_1 a3_2)))) else (chargeparklaw12_ChargerExchanged.j0 k true true a0_0 a0_1 a0_2 a0_3 a0_4 a0_5 a0_6 a0_7 a1_0 a1_1 a1_2 a1_3 a2_0 a2_1 a2_2 a3_0 a3_1 a3_2))) = some r := H
  have A5 := Aside0.mk A50
  clear A50
  replace H := Option.bind_eq_some_iff.mp H
  obtain ⟨t331, A60, H⟩ := H
  replace H : (if t331 = true then (if a2_0 < 1 then (chargeparklaw12_ChargerExchanged.j0 k true true a0_0 a0_1 a0_2 a0_3 a0_4 a0_5 a0_6 a0_7 a1_0 a1_1 a1_2 a1_3 a2_0 a2_1 a2_2 a3_0 a3_1 a3_2) else (if a2_0 > 6 then (chargeparklaw12_ChargerExchanged.j0 k true true a0_0 a0_1 a0_2 a0_3 a0_4 a0_5 a0_6 a0_7 a1_0 a1_1 a1_2 a1_3 a2_0 a2_1 a2_2 a3_0 a3_1 a3_2) else (if a3_0 = 7 then (chargeparklaw12_ChargerExchanged.j0 k true false a0_0 a0_1 a0_2 a0_3 a0_4 a0_5 a0_6 a0_7 a1_0 a1_1 a1_2 a1_3 a2_0 a2_1 a2_2 a3_0 a3_1 a3_2) else (chargeparklaw12_ChargerExchanged.j0 k true (a3_0 != 8) a0_0 a0_1 a0_2 a0_3 a0_4 a0_5 a0_6 a0_7 a1_0 a1_1 a1_2 a1_3 a2_0 a2_1 a2_2 a3_0 a3_1 a3_2)))) else (chargeparklaw12_ChargerExchanged.j0 k true true a0_0 a0_1 a0_2 a0_3 a0_4 a0_5 a0_6 a0_7 a1_0 a1_1 a1_2 a1_3 a2_0 a2_1 a2_2 a3_0 a3_1 a3_2)) = some r := H
  have A6 := Aside0.mk A60
  clear A60
  have HC7 := Aside0.mk H
  clear H
  go_enter Tryd.func9, Tryd.ntmps9
  go_upto_region 3 with (first | ((with_reducible refine gate_dst (N := 4) rfl ?_); refine box_event ?hg (N := 4) ?hd (cs := #[.string a0_0, .int .i64 a0_1, .int .i64 a0_2, .int .i64 a0_3, .int .i64 a0_4, .int .i64 a0_5, .int .i64 a0_6, .int .i64 a0_7]) (t := 23) ?hr ?_; (case hd => rfl); (case hg => rfl); (case hr => first | (go_simp; done) | (go_simp; rfl)); intro gb327 hg w8 hbox hb; have n0_ := Aside0.mk (below_step (by repeat (first | (with_reducible first | exact HB.out | apply below_alloc | apply pw_below_drewN | apply below_drew1) | exact HB.out)) hb); have n1_ := Aside0.mk (hbox); have n2_ := Aside0.mk ((by rw [hg]; exact (below_size (by repeat (first | (with_reducible first | exact HB.out | apply below_alloc | apply pw_below_drewN | apply below_drew1) | exact HB.out))) : w.heap.size ≤ gb327)); have n3_ := Aside0.mk ((by rw [hg]; exact (below_size (by repeat (first | (with_reducible first | exact HB.out | apply below_alloc | apply pw_below_drewN | apply below_drew1) | exact HB.out))) : w.heap.size ≤ gb327)); clear HB; have HB := n0_; have BK327 := n1_; have GW327 := n2_; have GE327 := n3_; clear n0_ n1_ n2_ n3_; clear hb hbox hg) | ((with_reducible refine gate_dst (N := 5) rfl ?_); refine box_event ?hg (N := 5) ?hd (cs := #[.int .i64 a1_0, .int .i64 a1_1, .int .i64 a1_2, .bool a1_3]) (t := 25) ?hr ?_; (case hd => rfl); (case hg => rfl); (case hr => first | (go_simp; done) | (go_simp; rfl)); intro gb328 hg w9 hbox hb; have n0_ := Aside0.mk (blk_below (g := gb327) (o := .cells #[.string a0_0, .int .i64 a0_1, .int .i64 a0_2, .int .i64 a0_3, .int .i64 a0_4, .int .i64 a0_5, .int .i64 a0_6, .int .i64 a0_7] 23 (0, 0)) (by (with_reducible repeat (first | refine blk_drewN ?_ _ | refine blk_drew ?_ | refine blk_alloc ?_ _)); exact BK327.out) hb); have n1_ := Aside0.mk (below_step (by repeat (first | (with_reducible first | exact HB.out | apply below_alloc | apply pw_below_drewN | apply below_drew1 | refine below_set ?_ GE327.out) | exact HB.out)) hb); have n2_ := Aside0.mk (hbox); have n3_ := Aside0.mk ((by rw [hg]; exact (below_size (by repeat (first | (with_reducible first | exact HB.out | apply below_alloc | apply pw_below_drewN | apply below_drew1 | refine below_set ?_ GE327.out) | exact HB.out))) : w.heap.size ≤ gb328)); have n4_ := Aside0.mk ((by rw [hg]; exact (below_size (by repeat (first | (with_reducible first | exact HB.out | apply below_alloc | apply pw_below_drewN | apply below_drew1 | refine below_set ?_ GE327.out) | exact HB.out))) : w.heap.size ≤ gb328)); have n5_ := Aside0.mk ((by rw [hg]; exact Nat.ne_of_lt (blk_lt (g := gb327) (o := .cells #[.string a0_0, .int .i64 a0_1, .int .i64 a0_2, .int .i64 a0_3, .int .i64 a0_4, .int .i64 a0_5, .int .i64 a0_6, .int .i64 a0_7] 23 (0, 0)) (by (with_reducible repeat (first | refine blk_drewN ?_ _ | refine blk_drew ?_ | refine blk_alloc ?_ _)); exact BK327.out)) : gb327 ≠ gb328)); have n6_ := Aside0.mk ((by rw [hg]; exact Nat.ne_of_gt (blk_lt (g := gb327) (o := .cells #[.string a0_0, .int .i64 a0_1, .int .i64 a0_2, .int .i64 a0_3, .int .i64 a0_4, .int .i64 a0_5, .int .i64 a0_6, .int .i64 a0_7] 23 (0, 0)) (by (with_reducible repeat (first | refine blk_drewN ?_ _ | refine blk_drew ?_ | refine blk_alloc ?_ _)); exact BK327.out)) : gb328 ≠ gb327)); clear BK327; clear HB; have BK327 := n0_; have HB := n1_; have BK328 := n2_; have GW328 := n3_; have GE328 := n4_; have NB327_328 := n5_; have NB328_327 := n6_; clear n0_ n1_ n2_ n3_ n4_ n5_ n6_; clear hb hbox hg) | ((with_reducible refine gate_dst (N := 6) rfl ?_); refine box_event ?hg (N := 6) ?hd (cs := #[.int .i64 a2_0, .int .i64 a2_1, .int .i64 a2_2]) (t := 27) ?hr ?_; (case hd => rfl); (case hg => rfl); (case hr => first | (go_simp; done) | (go_simp; rfl)); intro gb329 hg w10 hbox hb; have n0_ := Aside0.mk (blk_below (g := gb327) (o := .cells #[.string a0_0, .int .i64 a0_1, .int .i64 a0_2, .int .i64 a0_3, .int .i64 a0_4, .int .i64 a0_5, .int .i64 a0_6, .int .i64 a0_7] 23 (0, 0)) (by (with_reducible repeat (first | refine blk_drewN ?_ _ | refine blk_drew ?_ | refine blk_alloc ?_ _)); exact BK327.out) hb); have n1_ := Aside0.mk (blk_below (g := gb328) (o := .cells #[.int .i64 a1_0, .int .i64 a1_1, .int .i64 a1_2, .bool a1_3] 25 (0, 0)) (by (with_reducible repeat (first | refine blk_drewN ?_ _ | refine blk_drew ?_ | refine blk_alloc ?_ _)); exact BK328.out) hb); have n2_ := Aside0.mk (below_step (by repeat (first | (with_reducible first | exact HB.out | apply below_alloc | apply pw_below_drewN | apply below_drew1 | refine below_set ?_ GE327.out | refine below_set ?_ GE328.out) | exact HB.out)) hb); have n3_ := Aside0.mk (hbox); have n4_ := Aside0.mk ((by rw [hg]; exact (below_size (by repeat (first | (with_reducible first | exact HB.out | apply below_alloc | apply pw_below_drewN | apply below_drew1 | refine below_set ?_ GE327.out | refine below_set ?_ GE328.out) | exact HB.out))) : w.heap.size ≤ gb329)); have n5_ := Aside0.mk ((by rw [hg]; exact (below_size (by repeat (first | (with_reducible first | exact HB.out | apply below_alloc | apply pw_below_drewN | apply below_drew1 | refine below_set ?_ GE327.out | refine below_set ?_ GE328.out) | exact HB.out))) : w.heap.size ≤ gb329)); have n6_ := Aside0.mk ((by rw [hg]; exact Nat.ne_of_lt (blk_lt (g := gb327) (o := .cells #[.string a0_0, .int .i64 a0_1, .int .i64 a0_2, .int .i64 a0_3, .int .i64 a0_4, .int .i64 a0_5, .int .i64 a0_6, .int .i64 a0_7] 23 (0, 0)) (by (with_reducible repeat (first | refine blk_drewN ?_ _ | refine blk_drew ?_ | refine blk_alloc ?_ _)); exact BK327.out)) : gb327 ≠ gb329)); have n7_ := Aside0.mk ((by rw [hg]; exact Nat.ne_of_gt (blk_lt (g := gb327) (o := .cells #[.string a0_0, .int .i64 a0_1, .int .i64 a0_2, .int .i64 a0_3, .int .i64 a0_4, .int .i64 a0_5, .int .i64 a0_6, .int .i64 a0_7] 23 (0, 0)) (by (with_reducible repeat (first | refine blk_drewN ?_ _ | refine blk_drew ?_ | refine blk_alloc ?_ _)); exact BK327.out)) : gb329 ≠ gb327)); have n8_ := Aside0.mk ((by rw [hg]; exact Nat.ne_of_lt (blk_lt (g := gb328) (o := .cells #[.int .i64 a1_0, .int .i64 a1_1, .int .i64 a1_2, .bool a1_3] 25 (0, 0)) (by (with_reducible repeat (first | refine blk_drewN ?_ _ | refine blk_drew ?_ | refine blk_alloc ?_ _)); exact BK328.out)) : gb328 ≠ gb329)); have n9_ := Aside0.mk ((by rw [hg]; exact Nat.ne_of_gt (blk_lt (g := gb328) (o := .cells #[.int .i64 a1_0, .int .i64 a1_1, .int .i64 a1_2, .bool a1_3] 25 (0, 0)) (by (with_reducible repeat (first | refine blk_drewN ?_ _ | refine blk_drew ?_ | refine blk_alloc ?_ _)); exact BK328.out)) : gb329 ≠ gb328)); clear BK327; clear BK328; clear HB; have BK327 := n0_; have BK328 := n1_; have HB := n2_; have BK329 := n3_; have GW329 := n4_; have GE329 := n5_; have NB327_329 := n6_; have NB329_327 := n7_; have NB328_329 := n8_; have NB329_328 := n9_; clear n0_ n1_ n2_ n3_ n4_ n5_ n6_ n7_ n8_ n9_; clear hb hbox hg) | ((with_reducible refine gate_dst (N := 7) rfl ?_); refine box_event ?hg (N := 7) ?hd (cs := #[.int .i64 a3_0, .int .i64 a3_1, .int .i64 a3_2]) (t := 27) ?hr ?_; (case hd => rfl); (case hg => rfl); (case hr => first | (go_simp; done) | (go_simp; rfl)); intro gb330 hg w11 hbox hb; have n0_ := Aside0.mk (blk_below (g := gb327) (o := .cells #[.string a0_0, .int .i64 a0_1, .int .i64 a0_2, .int .i64 a0_3, .int .i64 a0_4, .int .i64 a0_5, .int .i64 a0_6, .int .i64 a0_7] 23 (0, 0)) (by (with_reducible repeat (first | refine blk_drewN ?_ _ | refine blk_drew ?_ | refine blk_alloc ?_ _)); exact BK327.out) hb); have n1_ := Aside0.mk (blk_below (g := gb328) (o := .cells #[.int .i64 a1_0, .int .i64 a1_1, .int .i64 a1_2, .bool a1_3] 25 (0, 0)) (by (with_reducible repeat (first | refine blk_drewN ?_ _ | refine blk_drew ?_ | refine blk_alloc ?_ _)); exact BK328.out) hb); have n2_ := Aside0.mk (blk_below (g := gb329) (o := .cells #[.int .i64 a2_0, .int .i64 a2_1, .int .i64 a2_2] 27 (0, 0)) (by (with_reducible repeat (first | refine blk_drewN ?_ _ | refine blk_drew ?_ | refine blk_alloc ?_ _)); exact BK329.out) hb); have n3_ := Aside0.mk (below_step (by repeat (first | (with_reducible first | exact HB.out | apply below_alloc | apply pw_below_drewN | apply below_drew1 | refine below_set ?_ GE327.out | refine below_set ?_ GE328.out | refine below_set ?_ GE329.out) | exact HB.out)) hb); have n4_ := Aside0.mk (hbox); have n5_ := Aside0.mk ((by rw [hg]; exact (below_size (by repeat (first | (with_reducible first | exact HB.out | apply below_alloc | apply pw_below_drewN | apply below_drew1 | refine below_set ?_ GE327.out | refine below_set ?_ GE328.out | refine below_set ?_ GE329.out) | exact HB.out))) : w.heap.size ≤ gb330)); have n6_ := Aside0.mk ((by rw [hg]; exact (below_size (by repeat (first | (with_reducible first | exact HB.out | apply below_alloc | apply pw_below_drewN | apply below_drew1 | refine below_set ?_ GE327.out | refine below_set ?_ GE328.out | refine below_set ?_ GE329.out) | exact HB.out))) : w.heap.size ≤ gb330)); have n7_ := Aside0.mk ((by rw [hg]; exact Nat.ne_of_lt (blk_lt (g := gb327) (o := .cells #[.string a0_0, .int .i64 a0_1, .int .i64 a0_2, .int .i64 a0_3, .int .i64 a0_4, .int .i64 a0_5, .int .i64 a0_6, .int .i64 a0_7] 23 (0, 0)) (by (with_reducible repeat (first | refine blk_drewN ?_ _ | refine blk_drew ?_ | refine blk_alloc ?_ _)); exact BK327.out)) : gb327 ≠ gb330)); have n8_ := Aside0.mk ((by rw [hg]; exact Nat.ne_of_gt (blk_lt (g := gb327) (o := .cells #[.string a0_0, .int .i64 a0_1, .int .i64 a0_2, .int .i64 a0_3, .int .i64 a0_4, .int .i64 a0_5, .int .i64 a0_6, .int .i64 a0_7] 23 (0, 0)) (by (with_reducible repeat (first | refine blk_drewN ?_ _ | refine blk_drew ?_ | refine blk_alloc ?_ _)); exact BK327.out)) : gb330 ≠ gb327)); have n9_ := Aside0.mk ((by rw [hg]; exact Nat.ne_of_lt (blk_lt (g := gb328) (o := .cells #[.int .i64 a1_0, .int .i64 a1_1, .int .i64 a1_2, .bool a1_3] 25 (0, 0)) (by (with_reducible repeat (first | refine blk_drewN ?_ _ | refine blk_drew ?_ | refine blk_alloc ?_ _)); exact BK328.out)) : gb328 ≠ gb330)); have n10_ := Aside0.mk ((by rw [hg]; exact Nat.ne_of_gt (blk_lt (g := gb328) (o := .cells #[.int .i64 a1_0, .int .i64 a1_1, .int .i64 a1_2, .bool a1_3] 25 (0, 0)) (by (with_reducible repeat (first | refine blk_drewN ?_ _ | refine blk_drew ?_ | refine blk_alloc ?_ _)); exact BK328.out)) : gb330 ≠ gb328)); have n11_ := Aside0.mk ((by rw [hg]; exact Nat.ne_of_lt (blk_lt (g := gb329) (o := .cells #[.int .i64 a2_0, .int .i64 a2_1, .int .i64 a2_2] 27 (0, 0)) (by (with_reducible repeat (first | refine blk_drewN ?_ _ | refine blk_drew ?_ | refine blk_alloc ?_ _)); exact BK329.out)) : gb329 ≠ gb330)); have n12_ := Aside0.mk ((by rw [hg]; exact Nat.ne_of_gt (blk_lt (g := gb329) (o := .cells #[.int .i64 a2_0, .int .i64 a2_1, .int .i64 a2_2] 27 (0, 0)) (by (with_reducible repeat (first | refine blk_drewN ?_ _ | refine blk_drew ?_ | refine blk_alloc ?_ _)); exact BK329.out)) : gb330 ≠ gb329)); clear BK327; clear BK328; clear BK329; clear HB; have BK327 := n0_; have BK328 := n1_; have BK329 := n2_; have HB := n3_; have BK330 := n4_; have GW330 := n5_; have GE330 := n6_; have NB327_330 := n7_; have NB330_327 := n8_; have NB328_330 := n9_; have NB330_328 := n10_; have NB329_330 := n11_; have NB330_329 := n12_; clear n0_ n1_ n2_ n3_ n4_ n5_ n6_ n7_ n8_ n9_ n10_ n11_ n12_; clear hb hbox hg) | ((with_reducible refine gate_callee (f := 10) rfl ?_); refine goesL_ (some 21) rfl rfl Tryd.func10 (by kernel_rfl) rfl #[] rfl (by (try simp only [List.map_toArray, List.map_cons, List.map_nil]); first | done | rfl | (simp only [List.length_drop, List.length_take]; rfl)) ?_; (with_reducible refine (chargeparklaw12_head_c.calls  true _ (hG.below (by repeat (first | (with_reducible first | exact HB.out | apply below_alloc | apply pw_below_drewN | apply below_drew1) | exact HB.out | (refine Below.setCell ?_ (Aside0.out (by assumption)) _)))) A5.out).mono ?_); rintro e w12 ⟨rfl, hb⟩; refine ⟨_, rfl, ?_⟩; have n0_ := Aside0.mk (blk_below (g := gb327) (o := .cells #[.string a0_0, .int .i64 a0_1, .int .i64 a0_2, .int .i64 a0_3, .int .i64 a0_4, .int .i64 a0_5, .int .i64 a0_6, .int .i64 a0_7] 23 (0, 0)) (by (with_reducible repeat (first | refine blk_drewN ?_ _ | refine blk_drew ?_ | refine blk_alloc ?_ _)); exact BK327.out) hb); have n1_ := Aside0.mk (blk_below (g := gb328) (o := .cells #[.int .i64 a1_0, .int .i64 a1_1, .int .i64 a1_2, .bool a1_3] 25 (0, 0)) (by (with_reducible repeat (first | refine blk_drewN ?_ _ | refine blk_drew ?_ | refine blk_alloc ?_ _)); exact BK328.out) hb); have n2_ := Aside0.mk (blk_below (g := gb329) (o := .cells #[.int .i64 a2_0, .int .i64 a2_1, .int .i64 a2_2] 27 (0, 0)) (by (with_reducible repeat (first | refine blk_drewN ?_ _ | refine blk_drew ?_ | refine blk_alloc ?_ _)); exact BK329.out) hb); have n3_ := Aside0.mk (blk_below (g := gb330) (o := .cells #[.int .i64 a3_0, .int .i64 a3_1, .int .i64 a3_2] 27 (0, 0)) (by (with_reducible repeat (first | refine blk_drewN ?_ _ | refine blk_drew ?_ | refine blk_alloc ?_ _)); exact BK330.out) hb); have n4_ := Aside0.mk (below_step (by repeat (first | (with_reducible first | exact HB.out | apply below_alloc | apply pw_below_drewN | apply below_drew1 | refine below_set ?_ GE327.out | refine below_set ?_ GE328.out | refine below_set ?_ GE329.out | refine below_set ?_ GE330.out) | exact HB.out)) hb); clear BK327; clear BK328; clear BK329; clear BK330; clear HB; have BK327 := n0_; have BK328 := n1_; have BK329 := n2_; have BK330 := n3_; have HB := n4_; clear n0_ n1_ n2_ n3_ n4_; (try clear hb); (try clear hb2); (try clear hk); (try clear hi); have hnb13 := NB327_328.out; have hnc13 := NB328_327.out; have hnb14 := NB327_329.out; have hnc14 := NB329_327.out; have hnb15 := NB327_330.out; have hnc15 := NB330_327.out; have hcz16_0 : w12.cell? ⟨gb327, 0, none⟩ = some (.string a0_0) := (blk_cell BK327.out 0).trans rfl; have hcz16_1 : w12.cell? ⟨gb327, 1, none⟩ = some (.int .i64 a0_1) := (blk_cell BK327.out 1).trans rfl; have hcz16_2 : w12.cell? ⟨gb327, 2, none⟩ = some (.int .i64 a0_2) := (blk_cell BK327.out 2).trans rfl; have hcz16_3 : w12.cell? ⟨gb327, 3, none⟩ = some (.int .i64 a0_3) := (blk_cell BK327.out 3).trans rfl; have hcz16_4 : w12.cell? ⟨gb327, 4, none⟩ = some (.int .i64 a0_4) := (blk_cell BK327.out 4).trans rfl; have hcz16_5 : w12.cell? ⟨gb327, 5, none⟩ = some (.int .i64 a0_5) := (blk_cell BK327.out 5).trans rfl; have hcz16_6 : w12.cell? ⟨gb327, 6, none⟩ = some (.int .i64 a0_6) := (blk_cell BK327.out 6).trans rfl; have hcz16_7 : w12.cell? ⟨gb327, 7, none⟩ = some (.int .i64 a0_7) := (blk_cell BK327.out 7).trans rfl; have hfz16_0 := blk_frozen BK327.out 0; have hfz16_1 := blk_frozen BK327.out 1; have hfz16_2 := blk_frozen BK327.out 2; have hfz16_3 := blk_frozen BK327.out 3; have hfz16_4 := blk_frozen BK327.out 4; have hfz16_5 := blk_frozen BK327.out 5; have hfz16_6 := blk_frozen BK327.out 6; have hfz16_7 := blk_frozen BK327.out 7; have hnb17 := NB328_329.out; have hnc17 := NB329_328.out; have hnb18 := NB328_330.out; have hnc18 := NB330_328.out; have hcz19_0 : w12.cell? ⟨gb328, 0, none⟩ = some (.int .i64 a1_0) := (blk_cell BK328.out 0).trans rfl; have hcz19_1 : w12.cell? ⟨gb328, 1, none⟩ = some (.int .i64 a1_1) := (blk_cell BK328.out 1).trans rfl; have hcz19_2 : w12.cell? ⟨gb328, 2, none⟩ = some (.int .i64 a1_2) := (blk_cell BK328.out 2).trans rfl; have hcz19_3 : w12.cell? ⟨gb328, 3, none⟩ = some (.bool a1_3) := (blk_cell BK328.out 3).trans rfl; have hfz19_0 := blk_frozen BK328.out 0; have hfz19_1 := blk_frozen BK328.out 1; have hfz19_2 := blk_frozen BK328.out 2; have hfz19_3 := blk_frozen BK328.out 3) | ((with_reducible refine gate_callee (f := 14) rfl ?_); refine goesL_ (some 24) rfl rfl Tryd.func14 (by kernel_rfl) rfl #[.agg #[.string a0_0, .int .i64 a0_1, .int .i64 a0_2, .int .i64 a0_3, .int .i64 a0_4, .int .i64 a0_5, .int .i64 a0_6, .int .i64 a0_7], .agg #[.int .i64 a1_0, .int .i64 a1_1, .int .i64 a1_2, .bool a1_3]] rfl (by (try simp only [List.map_toArray, List.map_cons, List.map_nil]); first | done | rfl | (simp only [List.length_drop, List.length_take]; rfl)) ?_; (with_reducible refine (chargeparkref12_Valid.calls k a0_0 a0_1 a0_2 a0_3 a0_4 a0_5 a0_6 a0_7 a1_0 a1_1 a1_2 a1_3 t331 _ A6.out).mono ?_); rintro e w20 ⟨rfl, hb⟩; refine ⟨_, rfl, ?_⟩; have n0_ := Aside0.mk (blk_below (g := gb327) (o := .cells #[.string a0_0, .int .i64 a0_1, .int .i64 a0_2, .int .i64 a0_3, .int .i64 a0_4, .int .i64 a0_5, .int .i64 a0_6, .int .i64 a0_7] 23 (0, 0)) (by (with_reducible repeat (first | refine blk_drewN ?_ _ | refine blk_drew ?_ | refine blk_alloc ?_ _)); exact BK327.out) hb); have n1_ := Aside0.mk (blk_below (g := gb328) (o := .cells #[.int .i64 a1_0, .int .i64 a1_1, .int .i64 a1_2, .bool a1_3] 25 (0, 0)) (by (with_reducible repeat (first | refine blk_drewN ?_ _ | refine blk_drew ?_ | refine blk_alloc ?_ _)); exact BK328.out) hb); have n2_ := Aside0.mk (blk_below (g := gb329) (o := .cells #[.int .i64 a2_0, .int .i64 a2_1, .int .i64 a2_2] 27 (0, 0)) (by (with_reducible repeat (first | refine blk_drewN ?_ _ | refine blk_drew ?_ | refine blk_alloc ?_ _)); exact BK329.out) hb); have n3_ := Aside0.mk (blk_below (g := gb330) (o := .cells #[.int .i64 a3_0, .int .i64 a3_1, .int .i64 a3_2] 27 (0, 0)) (by (with_reducible repeat (first | refine blk_drewN ?_ _ | refine blk_drew ?_ | refine blk_alloc ?_ _)); exact BK330.out) hb); have n4_ := Aside0.mk (below_step (by repeat (first | (with_reducible first | exact HB.out | apply below_alloc | apply pw_below_drewN | apply below_drew1 | refine below_set ?_ GE327.out | refine below_set ?_ GE328.out | refine below_set ?_ GE329.out | refine below_set ?_ GE330.out) | exact HB.out)) hb); clear BK327; clear BK328; clear BK329; clear BK330; clear HB; have BK327 := n0_; have BK328 := n1_; have BK329 := n2_; have BK330 := n3_; have HB := n4_; clear n0_ n1_ n2_ n3_ n4_; (try clear hb); (try clear hb2); (try clear hk); (try clear hi)))
  (try simp only [Act.put, List.setIfInBounds_toArray, List.set_cons_zero, List.set_cons_succ])
  go_cut [46] (fun v46 wc => ∃ (kq : Nat) (x46_6 : Bool), v46 = .bool x46_6 ∧ Aside0 (chargeparklaw12_ChargerExchanged.j0 kq true x46_6 a0_0 a0_1 a0_2 a0_3 a0_4 a0_5 a0_6 a0_7 a1_0 a1_1 a1_2 a1_3 a2_0 a2_1 a2_2 a3_0 a3_1 a3_2 = some r) ∧ Aside0 (kq ≤ k) ∧ Aside0 (wc.heap[gb327]? = some (.cells #[.string a0_0, .int .i64 a0_1, .int .i64 a0_2, .int .i64 a0_3, .int .i64 a0_4, .int .i64 a0_5, .int .i64 a0_6, .int .i64 a0_7] 23 (0, 0))) ∧ Aside0 (wc.heap[gb328]? = some (.cells #[.int .i64 a1_0, .int .i64 a1_1, .int .i64 a1_2, .bool a1_3] 25 (0, 0))) ∧ Aside0 (wc.heap[gb329]? = some (.cells #[.int .i64 a2_0, .int .i64 a2_1, .int .i64 a2_2] 27 (0, 0))) ∧ Aside0 (wc.heap[gb330]? = some (.cells #[.int .i64 a3_0, .int .i64 a3_1, .int .i64 a3_2] 27 (0, 0))) ∧ Aside0 (Below w.heap.size w wc))
  case first =>
    have H := HC7.out
    clear HC7
    by_cases c21 : t331 = true
    · subst c21
      have H1 : (if a2_0 < 1 then (chargeparklaw12_ChargerExchanged.j0 k true true a0_0 a0_1 a0_2 a0_3 a0_4 a0_5 a0_6 a0_7 a1_0 a1_1 a1_2 a1_3 a2_0 a2_1 a2_2 a3_0 a3_1 a3_2) else (if a2_0 > 6 then (chargeparklaw12_ChargerExchanged.j0 k true true a0_0 a0_1 a0_2 a0_3 a0_4 a0_5 a0_6 a0_7 a1_0 a1_1 a1_2 a1_3 a2_0 a2_1 a2_2 a3_0 a3_1 a3_2) else (if a3_0 = 7 then (chargeparklaw12_ChargerExchanged.j0 k true false a0_0 a0_1 a0_2 a0_3 a0_4 a0_5 a0_6 a0_7 a1_0 a1_1 a1_2 a1_3 a2_0 a2_1 a2_2 a3_0 a3_1 a3_2) else (chargeparklaw12_ChargerExchanged.j0 k true (a3_0 != 8) a0_0 a0_1 a0_2 a0_3 a0_4 a0_5 a0_6 a0_7 a1_0 a1_1 a1_2 a1_3 a2_0 a2_1 a2_2 a3_0 a3_1 a3_2)))) = some r := by rw [if_pos rfl] at H; exact H
      clear H
      have H := H1
      clear H1
      by_cases c22 : a2_0 < 1
      · rw [if_pos c22] at H
        have c22b0 : decide (a2_0 < 1) = true := decide_eq_true c22
        clear c22
        (first | rw [c22b0] | (simp only [i64_w, i32_w]; rw [c22b0]) | skip)
        have H' := Aside0.mk H
        clear H
        have hnb23 := NB329_327.out
        have hnc23 := NB327_329.out
        have hnb24 := NB329_328.out
        have hnc24 := NB328_329.out
        have hnb25 := NB329_330.out
        have hnc25 := NB330_329.out
        have hcz26_0 : w20.cell? ⟨gb329, 0, none⟩ = some (.int .i64 a2_0) := (blk_cell BK329.out 0).trans rfl
        have hcz26_1 : w20.cell? ⟨gb329, 1, none⟩ = some (.int .i64 a2_1) := (blk_cell BK329.out 1).trans rfl
        have hcz26_2 : w20.cell? ⟨gb329, 2, none⟩ = some (.int .i64 a2_2) := (blk_cell BK329.out 2).trans rfl
        have hfz26_0 := blk_frozen BK329.out 0
        have hfz26_1 := blk_frozen BK329.out 1
        have hfz26_2 := blk_frozen BK329.out 2
        go_wp2
        go_meet
        case rel => exact ⟨_, (true), (by first | rfl | (simp; done) | (simp [*]; done)), H', ⟨by first | omega | exact Nat.le_refl _⟩, ⟨by (with_reducible repeat (first | refine blk_drewN ?_ _ | refine blk_drew ?_ | refine blk_alloc ?_ _)); exact BK327.out⟩, ⟨by (with_reducible repeat (first | refine blk_drewN ?_ _ | refine blk_drew ?_ | refine blk_alloc ?_ _)); exact BK328.out⟩, ⟨by (with_reducible repeat (first | refine blk_drewN ?_ _ | refine blk_drew ?_ | refine blk_alloc ?_ _)); exact BK329.out⟩, ⟨by (with_reducible repeat (first | refine blk_drewN ?_ _ | refine blk_drew ?_ | refine blk_alloc ?_ _)); exact BK330.out⟩, ⟨by repeat (first | (with_reducible first | exact HB.out | apply below_alloc | apply pw_below_drewN | apply below_drew1 | refine below_set ?_ GE327.out | refine below_set ?_ GE328.out | refine below_set ?_ GE329.out | refine below_set ?_ GE330.out) | exact HB.out)⟩⟩
      · rw [if_neg c22] at H
        have c22b0 : decide (a2_0 < 1) = false := decide_eq_false c22
        clear c22
        (first | rw [c22b0] | (simp only [i64_w, i32_w]; rw [c22b0]) | skip)
        by_cases c27 : a2_0 > 6
        · rw [if_pos c27] at H
          have c27b0 : decide (6 < a2_0) = true := decide_eq_true c27
          clear c27
          have H' := Aside0.mk H
          clear H
          have hnb28 := NB329_327.out
          have hnc28 := NB327_329.out
          have hnb29 := NB329_328.out
          have hnc29 := NB328_329.out
          have hnb30 := NB329_330.out
          have hnc30 := NB330_329.out
          have hcz31_0 : w20.cell? ⟨gb329, 0, none⟩ = some (.int .i64 a2_0) := (blk_cell BK329.out 0).trans rfl
          have hcz31_1 : w20.cell? ⟨gb329, 1, none⟩ = some (.int .i64 a2_1) := (blk_cell BK329.out 1).trans rfl
          have hcz31_2 : w20.cell? ⟨gb329, 2, none⟩ = some (.int .i64 a2_2) := (blk_cell BK329.out 2).trans rfl
          have hfz31_0 := blk_frozen BK329.out 0
          have hfz31_1 := blk_frozen BK329.out 1
          have hfz31_2 := blk_frozen BK329.out 2
          go_wp2
          go_meet
          case rel => exact ⟨_, (true), (by first | rfl | (simp; done) | (simp [*]; done)), H', ⟨by first | omega | exact Nat.le_refl _⟩, ⟨by (with_reducible repeat (first | refine blk_drewN ?_ _ | refine blk_drew ?_ | refine blk_alloc ?_ _)); exact BK327.out⟩, ⟨by (with_reducible repeat (first | refine blk_drewN ?_ _ | refine blk_drew ?_ | refine blk_alloc ?_ _)); exact BK328.out⟩, ⟨by (with_reducible repeat (first | refine blk_drewN ?_ _ | refine blk_drew ?_ | refine blk_alloc ?_ _)); exact BK329.out⟩, ⟨by (with_reducible repeat (first | refine blk_drewN ?_ _ | refine blk_drew ?_ | refine blk_alloc ?_ _)); exact BK330.out⟩, ⟨by repeat (first | (with_reducible first | exact HB.out | apply below_alloc | apply pw_below_drewN | apply below_drew1 | refine below_set ?_ GE327.out | refine below_set ?_ GE328.out | refine below_set ?_ GE329.out | refine below_set ?_ GE330.out) | exact HB.out)⟩⟩
        · rw [if_neg c27] at H
          have c27b0 : decide (6 < a2_0) = false := decide_eq_false c27
          clear c27
          by_cases c32 : a3_0 = 7
          · rw [if_pos c32] at H
            have c32b0 : (a3_0 == 7) = true := beq_iff_eq.mpr c32
            have c32b1 : (a3_0 != 7) = false := bne_eq_false_iff_eq.mpr c32
            clear c32
            have H' := Aside0.mk H
            clear H
            have hnb33 := NB329_327.out
            have hnc33 := NB327_329.out
            have hnb34 := NB329_328.out
            have hnc34 := NB328_329.out
            have hnb35 := NB329_330.out
            have hnc35 := NB330_329.out
            have hcz36_0 : w20.cell? ⟨gb329, 0, none⟩ = some (.int .i64 a2_0) := (blk_cell BK329.out 0).trans rfl
            have hcz36_1 : w20.cell? ⟨gb329, 1, none⟩ = some (.int .i64 a2_1) := (blk_cell BK329.out 1).trans rfl
            have hcz36_2 : w20.cell? ⟨gb329, 2, none⟩ = some (.int .i64 a2_2) := (blk_cell BK329.out 2).trans rfl
            have hfz36_0 := blk_frozen BK329.out 0
            have hfz36_1 := blk_frozen BK329.out 1
            have hfz36_2 := blk_frozen BK329.out 2
            have hnb37 := NB330_327.out
            have hnc37 := NB327_330.out
            have hnb38 := NB330_328.out
            have hnc38 := NB328_330.out
            have hcz39_0 : w20.cell? ⟨gb330, 0, none⟩ = some (.int .i64 a3_0) := (blk_cell BK330.out 0).trans rfl
            have hcz39_1 : w20.cell? ⟨gb330, 1, none⟩ = some (.int .i64 a3_1) := (blk_cell BK330.out 1).trans rfl
            have hcz39_2 : w20.cell? ⟨gb330, 2, none⟩ = some (.int .i64 a3_2) := (blk_cell BK330.out 2).trans rfl
            have hfz39_0 := blk_frozen BK330.out 0
            have hfz39_1 := blk_frozen BK330.out 1
            have hfz39_2 := blk_frozen BK330.out 2
            go_wp2
            go_meet
            case rel => exact ⟨_, (false), (by first | rfl | (simp; done) | (simp [*]; done)), H', ⟨by first | omega | exact Nat.le_refl _⟩, ⟨by (with_reducible repeat (first | refine blk_drewN ?_ _ | refine blk_drew ?_ | refine blk_alloc ?_ _)); exact BK327.out⟩, ⟨by (with_reducible repeat (first | refine blk_drewN ?_ _ | refine blk_drew ?_ | refine blk_alloc ?_ _)); exact BK328.out⟩, ⟨by (with_reducible repeat (first | refine blk_drewN ?_ _ | refine blk_drew ?_ | refine blk_alloc ?_ _)); exact BK329.out⟩, ⟨by (with_reducible repeat (first | refine blk_drewN ?_ _ | refine blk_drew ?_ | refine blk_alloc ?_ _)); exact BK330.out⟩, ⟨by repeat (first | (with_reducible first | exact HB.out | apply below_alloc | apply pw_below_drewN | apply below_drew1 | refine below_set ?_ GE327.out | refine below_set ?_ GE328.out | refine below_set ?_ GE329.out | refine below_set ?_ GE330.out) | exact HB.out)⟩⟩
          · rw [if_neg c32] at H
            have c32b0 : (a3_0 == 7) = false := beq_eq_false_iff_ne.mpr c32
            have c32b1 : (a3_0 != 7) = true := bne_iff_ne.mpr c32
            have H' := Aside0.mk H
            clear H
            have hnb40 := NB329_327.out
            have hnc40 := NB327_329.out
            have hnb41 := NB329_328.out
            have hnc41 := NB328_329.out
            have hnb42 := NB329_330.out
            have hnc42 := NB330_329.out
            have hcz43_0 : w20.cell? ⟨gb329, 0, none⟩ = some (.int .i64 a2_0) := (blk_cell BK329.out 0).trans rfl
            have hcz43_1 : w20.cell? ⟨gb329, 1, none⟩ = some (.int .i64 a2_1) := (blk_cell BK329.out 1).trans rfl
            have hcz43_2 : w20.cell? ⟨gb329, 2, none⟩ = some (.int .i64 a2_2) := (blk_cell BK329.out 2).trans rfl
            have hfz43_0 := blk_frozen BK329.out 0
            have hfz43_1 := blk_frozen BK329.out 1
            have hfz43_2 := blk_frozen BK329.out 2
            have hnb44 := NB330_327.out
            have hnc44 := NB327_330.out
            have hnb45 := NB330_328.out
            have hnc45 := NB328_330.out
            have hcz46_0 : w20.cell? ⟨gb330, 0, none⟩ = some (.int .i64 a3_0) := (blk_cell BK330.out 0).trans rfl
            have hcz46_1 : w20.cell? ⟨gb330, 1, none⟩ = some (.int .i64 a3_1) := (blk_cell BK330.out 1).trans rfl
            have hcz46_2 : w20.cell? ⟨gb330, 2, none⟩ = some (.int .i64 a3_2) := (blk_cell BK330.out 2).trans rfl
            have hfz46_0 := blk_frozen BK330.out 0
            have hfz46_1 := blk_frozen BK330.out 1
            have hfz46_2 := blk_frozen BK330.out 2
            go_wp2
            go_meet
            case rel => exact ⟨_, ((a3_0 != 8)), (by first | rfl | (simp; done) | (simp [*]; done)), H', ⟨by first | omega | exact Nat.le_refl _⟩, ⟨by (with_reducible repeat (first | refine blk_drewN ?_ _ | refine blk_drew ?_ | refine blk_alloc ?_ _)); exact BK327.out⟩, ⟨by (with_reducible repeat (first | refine blk_drewN ?_ _ | refine blk_drew ?_ | refine blk_alloc ?_ _)); exact BK328.out⟩, ⟨by (with_reducible repeat (first | refine blk_drewN ?_ _ | refine blk_drew ?_ | refine blk_alloc ?_ _)); exact BK329.out⟩, ⟨by (with_reducible repeat (first | refine blk_drewN ?_ _ | refine blk_drew ?_ | refine blk_alloc ?_ _)); exact BK330.out⟩, ⟨by repeat (first | (with_reducible first | exact HB.out | apply below_alloc | apply pw_below_drewN | apply below_drew1 | refine below_set ?_ GE327.out | refine below_set ?_ GE328.out | refine below_set ?_ GE329.out | refine below_set ?_ GE330.out) | exact HB.out)⟩⟩
    · replace c21 := Bool.eq_false_iff.mpr c21
      subst c21
      have H1 : (chargeparklaw12_ChargerExchanged.j0 k true true a0_0 a0_1 a0_2 a0_3 a0_4 a0_5 a0_6 a0_7 a1_0 a1_1 a1_2 a1_3 a2_0 a2_1 a2_2 a3_0 a3_1 a3_2) = some r := by rw [if_neg (show ¬ (false = true) by decide)] at H; exact H
      clear H
      have H := H1
      clear H1
      have H' := Aside0.mk H
      clear H
      go_wp2
      go_meet
      case rel => exact ⟨_, (true), (by first | rfl | (simp; done) | (simp [*]; done)), H', ⟨by first | omega | exact Nat.le_refl _⟩, ⟨by (with_reducible repeat (first | refine blk_drewN ?_ _ | refine blk_drew ?_ | refine blk_alloc ?_ _)); exact BK327.out⟩, ⟨by (with_reducible repeat (first | refine blk_drewN ?_ _ | refine blk_drew ?_ | refine blk_alloc ?_ _)); exact BK328.out⟩, ⟨by (with_reducible repeat (first | refine blk_drewN ?_ _ | refine blk_drew ?_ | refine blk_alloc ?_ _)); exact BK329.out⟩, ⟨by (with_reducible repeat (first | refine blk_drewN ?_ _ | refine blk_drew ?_ | refine blk_alloc ?_ _)); exact BK330.out⟩, ⟨by repeat (first | (with_reducible first | exact HB.out | apply below_alloc | apply pw_below_drewN | apply below_drew1 | refine below_set ?_ GE327.out | refine below_set ?_ GE328.out | refine below_set ?_ GE329.out | refine below_set ?_ GE330.out) | exact HB.out)⟩⟩
  case rest =>
    clear HC7
    try clear c1
    try clear c2
    try clear p2
    try clear c3
    try clear c4
    try clear c9
    try clear c10
    try clear c13
    try clear c14
    try clear c15
    try clear c17
    try clear c18
    try clear c21
    try clear c22
    try clear c22b0
    try clear c23
    try clear c24
    try clear c25
    try clear c27
    try clear c27b0
    try clear c28
    try clear c29
    try clear c30
    try clear c32
    try clear c32b0
    try clear c32b1
    try clear c33
    try clear c34
    try clear c35
    try clear c37
    try clear c38
    try clear c40
    try clear c41
    try clear c42
    try clear c44
    try clear c45
    try clear hcz16_0
    try clear hcz16_1
    try clear hcz16_2
    try clear hcz16_3
    try clear hcz16_4
    try clear hcz16_5
    try clear hcz16_6
    try clear hcz16_7
    try clear hcz19_0
    try clear hcz19_1
    try clear hcz19_2
    try clear hcz19_3
    try clear hcz26_0
    try clear hcz26_1
    try clear hcz26_2
    try clear hcz31_0
    try clear hcz31_1
    try clear hcz31_2
    try clear hcz36_0
    try clear hcz36_1
    try clear hcz36_2
    try clear hcz39_0
    try clear hcz39_1
    try clear hcz39_2
    try clear hcz43_0
    try clear hcz43_1
    try clear hcz43_2
    try clear hcz46_0
    try clear hcz46_1
    try clear hcz46_2
    try clear hfz16_0
    try clear hfz16_1
    try clear hfz16_2
    try clear hfz16_3
    try clear hfz16_4
    try clear hfz16_5
    try clear hfz16_6
    try clear hfz16_7
    try clear hfz19_0
    try clear hfz19_1
    try clear hfz19_2
    try clear hfz19_3
    try clear hfz26_0
    try clear hfz26_1
    try clear hfz26_2
    try clear hfz31_0
    try clear hfz31_1
    try clear hfz31_2
    try clear hfz36_0
    try clear hfz36_1
    try clear hfz36_2
    try clear hfz39_0
    try clear hfz39_1
    try clear hfz39_2
    try clear hfz43_0
    try clear hfz43_1
    try clear hfz43_2
    try clear hfz46_0
    try clear hfz46_1
    try clear hfz46_2
    obtain ⟨kq, x46_6, rfl, HA, HJ6, BK327, BK328, BK329, BK330, HB⟩ := hcut
    cases kq with
    | zero => exact absurd HA.out (by simp [chargeparklaw12_ChargerExchanged.j0])
    | succ kj6 =>
      have H := HA.out
      clear HA
      simp only [chargeparklaw12_ChargerExchanged.j0] at H
      by_cases c47 : x46_6 = true
      · subst c47
        have H1 : (some true) = some r := by rw [if_pos rfl] at H; exact H
        clear H
        have H := H1
        clear H1
        obtain rfl := Option.some.inj H
        simp only [Option.some.injEq, Prod.mk.injEq] at H
        obtain ⟨rfl⟩ := H
        go_wp2
        go_ret
        exact ⟨by first | rfl | (simp [errW_none, errW_some] <;> rfl) | (simp [*, errW_none, errW_some] <;> rfl), by repeat (first | (with_reducible first | exact HB.out | apply below_alloc | apply pw_below_drewN | apply below_drew1 | refine below_set ?_ GE327.out | refine below_set ?_ GE328.out | refine below_set ?_ GE329.out | refine below_set ?_ GE330.out) | exact HB.out)⟩
      · replace c47 := Bool.eq_false_iff.mpr c47
        subst c47
        have H1 : ((charger_Step.f a0_0 a0_1 a0_2 a0_3 a0_4 a0_5 a0_6 a0_7 a1_0 a1_1 a1_2 a1_3 a2_0 a2_1 a2_2).bind fun bt332 => ((charger_Step.f a0_0 a0_1 a0_2 a0_3 a0_4 a0_5 a0_6 a0_7 a1_0 a1_1 a1_2 a1_3 a3_0 a3_1 a3_2).bind fun bt338 => (if bt332.2.2.2.2 = 0 then (chargeparklaw12_ChargerExchanged.j1 kj6 true bt332.2.2.2.2 bt338.2.2.2.2 (bt338.2.2.2.2 != 0) a0_0 a0_1 a0_2 a0_3 a0_4 a0_5 a0_6 a0_7 a2_0 a2_1 a2_2 a3_0 a3_1 a3_2 bt332.1 bt332.2.1 bt332.2.2.1 bt332.2.2.2.1 bt338.1 bt338.2.1 bt338.2.2.1 bt338.2.2.2.1) else (chargeparklaw12_ChargerExchanged.j1 kj6 true bt332.2.2.2.2 bt338.2.2.2.2 true a0_0 a0_1 a0_2 a0_3 a0_4 a0_5 a0_6 a0_7 a2_0 a2_1 a2_2 a3_0 a3_1 a3_2 bt332.1 bt332.2.1 bt332.2.2.1 bt332.2.2.2.1 bt338.1 bt338.2.1 bt338.2.2.1 bt338.2.2.2.1)))) = some r := by rw [if_neg (show ¬ (false = true) by decide)] at H; exact H
        clear H
        have H := H1
        clear H1
        replace H := Option.bind_eq_some_iff.mp H
        obtain ⟨⟨t332, t333, t334, t335, t336⟩, A480, H⟩ := H
        replace H : ((charger_Step.f a0_0 a0_1 a0_2 a0_3 a0_4 a0_5 a0_6 a0_7 a1_0 a1_1 a1_2 a1_3 a3_0 a3_1 a3_2).bind fun bt338 => (if t336 = 0 then (chargeparklaw12_ChargerExchanged.j1 kj6 true t336 bt338.2.2.2.2 (bt338.2.2.2.2 != 0) a0_0 a0_1 a0_2 a0_3 a0_4 a0_5 a0_6 a0_7 a2_0 a2_1 a2_2 a3_0 a3_1 a3_2 t332 t333 t334 t335 bt338.1 bt338.2.1 bt338.2.2.1 bt338.2.2.2.1) else (chargeparklaw12_ChargerExchanged.j1 kj6 true t336 bt338.2.2.2.2 true a0_0 a0_1 a0_2 a0_3 a0_4 a0_5 a0_6 a0_7 a2_0 a2_1 a2_2 a3_0 a3_1 a3_2 t332 t333 t334 t335 bt338.1 bt338.2.1 bt338.2.2.1 bt338.2.2.2.1))) = some r := H
        have A48 := Aside0.mk A480
        clear A480
        replace H := Option.bind_eq_some_iff.mp H
        obtain ⟨⟨t338, t339, t340, t341, t342⟩, A490, H⟩ := H
        replace H : (if t336 = 0 then (chargeparklaw12_ChargerExchanged.j1 kj6 true t336 t342 (t342 != 0) a0_0 a0_1 a0_2 a0_3 a0_4 a0_5 a0_6 a0_7 a2_0 a2_1 a2_2 a3_0 a3_1 a3_2 t332 t333 t334 t335 t338 t339 t340 t341) else (chargeparklaw12_ChargerExchanged.j1 kj6 true t336 t342 true a0_0 a0_1 a0_2 a0_3 a0_4 a0_5 a0_6 a0_7 a2_0 a2_1 a2_2 a3_0 a3_1 a3_2 t332 t333 t334 t335 t338 t339 t340 t341)) = some r := H
        have A49 := Aside0.mk A490
        clear A490
        have HC50 := Aside0.mk H
        clear H
        have hnb51 := NB327_328.out
        have hnc51 := NB328_327.out
        have hnb52 := NB327_329.out
        have hnc52 := NB329_327.out
        have hnb53 := NB327_330.out
        have hnc53 := NB330_327.out
        have hcz54_0 : wc.cell? ⟨gb327, 0, none⟩ = some (.string a0_0) := (blk_cell BK327.out 0).trans rfl
        have hcz54_1 : wc.cell? ⟨gb327, 1, none⟩ = some (.int .i64 a0_1) := (blk_cell BK327.out 1).trans rfl
        have hcz54_2 : wc.cell? ⟨gb327, 2, none⟩ = some (.int .i64 a0_2) := (blk_cell BK327.out 2).trans rfl
        have hcz54_3 : wc.cell? ⟨gb327, 3, none⟩ = some (.int .i64 a0_3) := (blk_cell BK327.out 3).trans rfl
        have hcz54_4 : wc.cell? ⟨gb327, 4, none⟩ = some (.int .i64 a0_4) := (blk_cell BK327.out 4).trans rfl
        have hcz54_5 : wc.cell? ⟨gb327, 5, none⟩ = some (.int .i64 a0_5) := (blk_cell BK327.out 5).trans rfl
        have hcz54_6 : wc.cell? ⟨gb327, 6, none⟩ = some (.int .i64 a0_6) := (blk_cell BK327.out 6).trans rfl
        have hcz54_7 : wc.cell? ⟨gb327, 7, none⟩ = some (.int .i64 a0_7) := (blk_cell BK327.out 7).trans rfl
        have hfz54_0 := blk_frozen BK327.out 0
        have hfz54_1 := blk_frozen BK327.out 1
        have hfz54_2 := blk_frozen BK327.out 2
        have hfz54_3 := blk_frozen BK327.out 3
        have hfz54_4 := blk_frozen BK327.out 4
        have hfz54_5 := blk_frozen BK327.out 5
        have hfz54_6 := blk_frozen BK327.out 6
        have hfz54_7 := blk_frozen BK327.out 7
        have hnb55 := NB328_329.out
        have hnc55 := NB329_328.out
        have hnb56 := NB328_330.out
        have hnc56 := NB330_328.out
        have hcz57_0 : wc.cell? ⟨gb328, 0, none⟩ = some (.int .i64 a1_0) := (blk_cell BK328.out 0).trans rfl
        have hcz57_1 : wc.cell? ⟨gb328, 1, none⟩ = some (.int .i64 a1_1) := (blk_cell BK328.out 1).trans rfl
        have hcz57_2 : wc.cell? ⟨gb328, 2, none⟩ = some (.int .i64 a1_2) := (blk_cell BK328.out 2).trans rfl
        have hcz57_3 : wc.cell? ⟨gb328, 3, none⟩ = some (.bool a1_3) := (blk_cell BK328.out 3).trans rfl
        have hfz57_0 := blk_frozen BK328.out 0
        have hfz57_1 := blk_frozen BK328.out 1
        have hfz57_2 := blk_frozen BK328.out 2
        have hfz57_3 := blk_frozen BK328.out 3
        have hnb58 := NB329_330.out
        have hnc58 := NB330_329.out
        have hcz59_0 : wc.cell? ⟨gb329, 0, none⟩ = some (.int .i64 a2_0) := (blk_cell BK329.out 0).trans rfl
        have hcz59_1 : wc.cell? ⟨gb329, 1, none⟩ = some (.int .i64 a2_1) := (blk_cell BK329.out 1).trans rfl
        have hcz59_2 : wc.cell? ⟨gb329, 2, none⟩ = some (.int .i64 a2_2) := (blk_cell BK329.out 2).trans rfl
        have hfz59_0 := blk_frozen BK329.out 0
        have hfz59_1 := blk_frozen BK329.out 1
        have hfz59_2 := blk_frozen BK329.out 2
        go_upto_region 7 with (first | ((with_reducible refine gate_callee (f := 11) rfl ?_); refine goesL_ (some 52) rfl rfl Tryd.func11 (by kernel_rfl) rfl #[.agg #[.string a0_0, .int .i64 a0_1, .int .i64 a0_2, .int .i64 a0_3, .int .i64 a0_4, .int .i64 a0_5, .int .i64 a0_6, .int .i64 a0_7], .agg #[.int .i64 a1_0, .int .i64 a1_1, .int .i64 a1_2, .bool a1_3], .agg #[.int .i64 a2_0, .int .i64 a2_1, .int .i64 a2_2]] rfl (by (try simp only [List.map_toArray, List.map_cons, List.map_nil]); first | done | rfl | (simp only [List.length_drop, List.length_take]; rfl)) ?_; (with_reducible refine (charger_Step.calls a0_0 a0_1 a0_2 a0_3 a0_4 a0_5 a0_6 a0_7 a1_0 a1_1 a1_2 a1_3 a2_0 a2_1 a2_2 t332 t333 t334 t335 t336 _ (hG.below (by repeat (first | (with_reducible first | exact HB.out | apply below_alloc | apply pw_below_drewN | apply below_drew1) | exact HB.out | (refine Below.setCell ?_ (Aside0.out (by assumption)) _)))) A48.out).mono ?_); rintro e w60 ⟨rfl, hb⟩; refine ⟨_, rfl, ?_⟩; have n0_ := Aside0.mk (blk_below (g := gb327) (o := .cells #[.string a0_0, .int .i64 a0_1, .int .i64 a0_2, .int .i64 a0_3, .int .i64 a0_4, .int .i64 a0_5, .int .i64 a0_6, .int .i64 a0_7] 23 (0, 0)) (by (with_reducible repeat (first | refine blk_drewN ?_ _ | refine blk_drew ?_ | refine blk_alloc ?_ _)); exact BK327.out) hb); have n1_ := Aside0.mk (blk_below (g := gb328) (o := .cells #[.int .i64 a1_0, .int .i64 a1_1, .int .i64 a1_2, .bool a1_3] 25 (0, 0)) (by (with_reducible repeat (first | refine blk_drewN ?_ _ | refine blk_drew ?_ | refine blk_alloc ?_ _)); exact BK328.out) hb); have n2_ := Aside0.mk (blk_below (g := gb329) (o := .cells #[.int .i64 a2_0, .int .i64 a2_1, .int .i64 a2_2] 27 (0, 0)) (by (with_reducible repeat (first | refine blk_drewN ?_ _ | refine blk_drew ?_ | refine blk_alloc ?_ _)); exact BK329.out) hb); have n3_ := Aside0.mk (blk_below (g := gb330) (o := .cells #[.int .i64 a3_0, .int .i64 a3_1, .int .i64 a3_2] 27 (0, 0)) (by (with_reducible repeat (first | refine blk_drewN ?_ _ | refine blk_drew ?_ | refine blk_alloc ?_ _)); exact BK330.out) hb); have n4_ := Aside0.mk (below_step (by repeat (first | (with_reducible first | exact HB.out | apply below_alloc | apply pw_below_drewN | apply below_drew1 | refine below_set ?_ GE327.out | refine below_set ?_ GE328.out | refine below_set ?_ GE329.out | refine below_set ?_ GE330.out) | exact HB.out)) hb); clear BK327; clear BK328; clear BK329; clear BK330; clear HB; have BK327 := n0_; have BK328 := n1_; have BK329 := n2_; have BK330 := n3_; have HB := n4_; clear n0_ n1_ n2_ n3_ n4_; (try clear hb); (try clear hb2); (try clear hk); (try clear hi)) | ((with_reducible refine gate_dst (N := 11) rfl ?_); refine box_event ?hg (N := 11) ?hd (cs := #[.int .i64 0, .int .i64 0, .int .i64 0, .bool false]) (t := 25) ?hr ?_; (case hd => rfl); (case hg => rfl); (case hr => first | (go_simp; done) | (go_simp; rfl)); intro gb337 hg w61 hbox hb; have n0_ := Aside0.mk (blk_below (g := gb327) (o := .cells #[.string a0_0, .int .i64 a0_1, .int .i64 a0_2, .int .i64 a0_3, .int .i64 a0_4, .int .i64 a0_5, .int .i64 a0_6, .int .i64 a0_7] 23 (0, 0)) (by (with_reducible repeat (first | refine blk_drewN ?_ _ | refine blk_drew ?_ | refine blk_alloc ?_ _)); exact BK327.out) hb); have n1_ := Aside0.mk (blk_below (g := gb328) (o := .cells #[.int .i64 a1_0, .int .i64 a1_1, .int .i64 a1_2, .bool a1_3] 25 (0, 0)) (by (with_reducible repeat (first | refine blk_drewN ?_ _ | refine blk_drew ?_ | refine blk_alloc ?_ _)); exact BK328.out) hb); have n2_ := Aside0.mk (blk_below (g := gb329) (o := .cells #[.int .i64 a2_0, .int .i64 a2_1, .int .i64 a2_2] 27 (0, 0)) (by (with_reducible repeat (first | refine blk_drewN ?_ _ | refine blk_drew ?_ | refine blk_alloc ?_ _)); exact BK329.out) hb); have n3_ := Aside0.mk (blk_below (g := gb330) (o := .cells #[.int .i64 a3_0, .int .i64 a3_1, .int .i64 a3_2] 27 (0, 0)) (by (with_reducible repeat (first | refine blk_drewN ?_ _ | refine blk_drew ?_ | refine blk_alloc ?_ _)); exact BK330.out) hb); have n4_ := Aside0.mk (below_step (by repeat (first | (with_reducible first | exact HB.out | apply below_alloc | apply pw_below_drewN | apply below_drew1 | refine below_set ?_ GE327.out | refine below_set ?_ GE328.out | refine below_set ?_ GE329.out | refine below_set ?_ GE330.out) | exact HB.out)) hb); have n5_ := Aside0.mk (hbox); have n6_ := Aside0.mk ((by rw [hg]; exact (below_size (by repeat (first | (with_reducible first | exact HB.out | apply below_alloc | apply pw_below_drewN | apply below_drew1 | refine below_set ?_ GE327.out | refine below_set ?_ GE328.out | refine below_set ?_ GE329.out | refine below_set ?_ GE330.out) | exact HB.out))) : w.heap.size ≤ gb337)); have n7_ := Aside0.mk ((by rw [hg]; exact (below_size (by repeat (first | (with_reducible first | exact HB.out | apply below_alloc | apply pw_below_drewN | apply below_drew1 | refine below_set ?_ GE327.out | refine below_set ?_ GE328.out | refine below_set ?_ GE329.out | refine below_set ?_ GE330.out) | exact HB.out))) : w.heap.size ≤ gb337)); have n8_ := Aside0.mk ((by rw [hg]; exact Nat.ne_of_lt (blk_lt (g := gb327) (o := .cells #[.string a0_0, .int .i64 a0_1, .int .i64 a0_2, .int .i64 a0_3, .int .i64 a0_4, .int .i64 a0_5, .int .i64 a0_6, .int .i64 a0_7] 23 (0, 0)) (by (with_reducible repeat (first | refine blk_drewN ?_ _ | refine blk_drew ?_ | refine blk_alloc ?_ _)); exact BK327.out)) : gb327 ≠ gb337)); have n9_ := Aside0.mk ((by rw [hg]; exact Nat.ne_of_gt (blk_lt (g := gb327) (o := .cells #[.string a0_0, .int .i64 a0_1, .int .i64 a0_2, .int .i64 a0_3, .int .i64 a0_4, .int .i64 a0_5, .int .i64 a0_6, .int .i64 a0_7] 23 (0, 0)) (by (with_reducible repeat (first | refine blk_drewN ?_ _ | refine blk_drew ?_ | refine blk_alloc ?_ _)); exact BK327.out)) : gb337 ≠ gb327)); have n10_ := Aside0.mk ((by rw [hg]; exact Nat.ne_of_lt (blk_lt (g := gb328) (o := .cells #[.int .i64 a1_0, .int .i64 a1_1, .int .i64 a1_2, .bool a1_3] 25 (0, 0)) (by (with_reducible repeat (first | refine blk_drewN ?_ _ | refine blk_drew ?_ | refine blk_alloc ?_ _)); exact BK328.out)) : gb328 ≠ gb337)); have n11_ := Aside0.mk ((by rw [hg]; exact Nat.ne_of_gt (blk_lt (g := gb328) (o := .cells #[.int .i64 a1_0, .int .i64 a1_1, .int .i64 a1_2, .bool a1_3] 25 (0, 0)) (by (with_reducible repeat (first | refine blk_drewN ?_ _ | refine blk_drew ?_ | refine blk_alloc ?_ _)); exact BK328.out)) : gb337 ≠ gb328)); have n12_ := Aside0.mk ((by rw [hg]; exact Nat.ne_of_lt (blk_lt (g := gb329) (o := .cells #[.int .i64 a2_0, .int .i64 a2_1, .int .i64 a2_2] 27 (0, 0)) (by (with_reducible repeat (first | refine blk_drewN ?_ _ | refine blk_drew ?_ | refine blk_alloc ?_ _)); exact BK329.out)) : gb329 ≠ gb337)); have n13_ := Aside0.mk ((by rw [hg]; exact Nat.ne_of_gt (blk_lt (g := gb329) (o := .cells #[.int .i64 a2_0, .int .i64 a2_1, .int .i64 a2_2] 27 (0, 0)) (by (with_reducible repeat (first | refine blk_drewN ?_ _ | refine blk_drew ?_ | refine blk_alloc ?_ _)); exact BK329.out)) : gb337 ≠ gb329)); have n14_ := Aside0.mk ((by rw [hg]; exact Nat.ne_of_lt (blk_lt (g := gb330) (o := .cells #[.int .i64 a3_0, .int .i64 a3_1, .int .i64 a3_2] 27 (0, 0)) (by (with_reducible repeat (first | refine blk_drewN ?_ _ | refine blk_drew ?_ | refine blk_alloc ?_ _)); exact BK330.out)) : gb330 ≠ gb337)); have n15_ := Aside0.mk ((by rw [hg]; exact Nat.ne_of_gt (blk_lt (g := gb330) (o := .cells #[.int .i64 a3_0, .int .i64 a3_1, .int .i64 a3_2] 27 (0, 0)) (by (with_reducible repeat (first | refine blk_drewN ?_ _ | refine blk_drew ?_ | refine blk_alloc ?_ _)); exact BK330.out)) : gb337 ≠ gb330)); clear BK327; clear BK328; clear BK329; clear BK330; clear HB; have BK327 := n0_; have BK328 := n1_; have BK329 := n2_; have BK330 := n3_; have HB := n4_; have BK337 := n5_; have GW337 := n6_; have GE337 := n7_; have NB327_337 := n8_; have NB337_327 := n9_; have NB328_337 := n10_; have NB337_328 := n11_; have NB329_337 := n12_; have NB337_329 := n13_; have NB330_337 := n14_; have NB337_330 := n15_; clear n0_ n1_ n2_ n3_ n4_ n5_ n6_ n7_ n8_ n9_ n10_ n11_ n12_ n13_ n14_ n15_; clear hb hbox hg; have hnb62 := NB337_327.out; have hnc62 := NB327_337.out; have hnb63 := NB337_328.out; have hnc63 := NB328_337.out; have hnb64 := NB337_329.out; have hnc64 := NB329_337.out; have hnb65 := NB337_330.out; have hnc65 := NB330_337.out; have hcz66_0 : w61.cell? ⟨gb337, 0, none⟩ = some (.int .i64 0) := (blk_cell BK337.out 0).trans rfl; have hcz66_1 : w61.cell? ⟨gb337, 1, none⟩ = some (.int .i64 0) := (blk_cell BK337.out 1).trans rfl; have hcz66_2 : w61.cell? ⟨gb337, 2, none⟩ = some (.int .i64 0) := (blk_cell BK337.out 2).trans rfl; have hcz66_3 : w61.cell? ⟨gb337, 3, none⟩ = some (.bool false) := (blk_cell BK337.out 3).trans rfl; have hfz66_0 := blk_frozen BK337.out 0; have hfz66_1 := blk_frozen BK337.out 1; have hfz66_2 := blk_frozen BK337.out 2; have hfz66_3 := blk_frozen BK337.out 3; have hcz67_0 : w61.cell? ⟨gb327, 0, none⟩ = some (.string a0_0) := (blk_cell BK327.out 0).trans rfl; have hcz67_1 : w61.cell? ⟨gb327, 1, none⟩ = some (.int .i64 a0_1) := (blk_cell BK327.out 1).trans rfl; have hcz67_2 : w61.cell? ⟨gb327, 2, none⟩ = some (.int .i64 a0_2) := (blk_cell BK327.out 2).trans rfl; have hcz67_3 : w61.cell? ⟨gb327, 3, none⟩ = some (.int .i64 a0_3) := (blk_cell BK327.out 3).trans rfl; have hcz67_4 : w61.cell? ⟨gb327, 4, none⟩ = some (.int .i64 a0_4) := (blk_cell BK327.out 4).trans rfl; have hcz67_5 : w61.cell? ⟨gb327, 5, none⟩ = some (.int .i64 a0_5) := (blk_cell BK327.out 5).trans rfl; have hcz67_6 : w61.cell? ⟨gb327, 6, none⟩ = some (.int .i64 a0_6) := (blk_cell BK327.out 6).trans rfl; have hcz67_7 : w61.cell? ⟨gb327, 7, none⟩ = some (.int .i64 a0_7) := (blk_cell BK327.out 7).trans rfl; have hfz67_0 := blk_frozen BK327.out 0; have hfz67_1 := blk_frozen BK327.out 1; have hfz67_2 := blk_frozen BK327.out 2; have hfz67_3 := blk_frozen BK327.out 3; have hfz67_4 := blk_frozen BK327.out 4; have hfz67_5 := blk_frozen BK327.out 5; have hfz67_6 := blk_frozen BK327.out 6; have hfz67_7 := blk_frozen BK327.out 7; have hcz68_0 : w61.cell? ⟨gb328, 0, none⟩ = some (.int .i64 a1_0) := (blk_cell BK328.out 0).trans rfl; have hcz68_1 : w61.cell? ⟨gb328, 1, none⟩ = some (.int .i64 a1_1) := (blk_cell BK328.out 1).trans rfl; have hcz68_2 : w61.cell? ⟨gb328, 2, none⟩ = some (.int .i64 a1_2) := (blk_cell BK328.out 2).trans rfl; have hcz68_3 : w61.cell? ⟨gb328, 3, none⟩ = some (.bool a1_3) := (blk_cell BK328.out 3).trans rfl; have hfz68_0 := blk_frozen BK328.out 0; have hfz68_1 := blk_frozen BK328.out 1; have hfz68_2 := blk_frozen BK328.out 2; have hfz68_3 := blk_frozen BK328.out 3; have hcz69_0 : w61.cell? ⟨gb330, 0, none⟩ = some (.int .i64 a3_0) := (blk_cell BK330.out 0).trans rfl; have hcz69_1 : w61.cell? ⟨gb330, 1, none⟩ = some (.int .i64 a3_1) := (blk_cell BK330.out 1).trans rfl; have hcz69_2 : w61.cell? ⟨gb330, 2, none⟩ = some (.int .i64 a3_2) := (blk_cell BK330.out 2).trans rfl; have hfz69_0 := blk_frozen BK330.out 0; have hfz69_1 := blk_frozen BK330.out 1; have hfz69_2 := blk_frozen BK330.out 2) | ((with_reducible refine gate_callee (f := 11) rfl ?_); refine goesL_ (some 59) rfl rfl Tryd.func11 (by kernel_rfl) rfl #[.agg #[.string a0_0, .int .i64 a0_1, .int .i64 a0_2, .int .i64 a0_3, .int .i64 a0_4, .int .i64 a0_5, .int .i64 a0_6, .int .i64 a0_7], .agg #[.int .i64 a1_0, .int .i64 a1_1, .int .i64 a1_2, .bool a1_3], .agg #[.int .i64 a3_0, .int .i64 a3_1, .int .i64 a3_2]] rfl (by (try simp only [List.map_toArray, List.map_cons, List.map_nil]); first | done | rfl | (simp only [List.length_drop, List.length_take]; rfl)) ?_; (with_reducible refine (charger_Step.calls a0_0 a0_1 a0_2 a0_3 a0_4 a0_5 a0_6 a0_7 a1_0 a1_1 a1_2 a1_3 a3_0 a3_1 a3_2 t338 t339 t340 t341 t342 _ (hG.below (by repeat (first | (with_reducible first | exact HB.out | apply below_alloc | apply pw_below_drewN | apply below_drew1) | exact HB.out | (refine Below.setCell ?_ (Aside0.out (by assumption)) _)))) A49.out).mono ?_); rintro e w70 ⟨rfl, hb⟩; refine ⟨_, rfl, ?_⟩; have n0_ := Aside0.mk (blk_below (g := gb327) (o := .cells #[.string a0_0, .int .i64 a0_1, .int .i64 a0_2, .int .i64 a0_3, .int .i64 a0_4, .int .i64 a0_5, .int .i64 a0_6, .int .i64 a0_7] 23 (0, 0)) (by (with_reducible repeat (first | refine blk_drewN ?_ _ | refine blk_drew ?_ | refine blk_alloc ?_ _)); refine blk_far ?_ NB327_337.out _; (with_reducible repeat (first | refine blk_drewN ?_ _ | refine blk_drew ?_ | refine blk_alloc ?_ _)); refine blk_far ?_ NB327_337.out _; (with_reducible repeat (first | refine blk_drewN ?_ _ | refine blk_drew ?_ | refine blk_alloc ?_ _)); refine blk_far ?_ NB327_337.out _; (with_reducible repeat (first | refine blk_drewN ?_ _ | refine blk_drew ?_ | refine blk_alloc ?_ _)); refine blk_far ?_ NB327_337.out _; (with_reducible repeat (first | refine blk_drewN ?_ _ | refine blk_drew ?_ | refine blk_alloc ?_ _)); exact BK327.out) hb); have n1_ := Aside0.mk (blk_below (g := gb328) (o := .cells #[.int .i64 a1_0, .int .i64 a1_1, .int .i64 a1_2, .bool a1_3] 25 (0, 0)) (by (with_reducible repeat (first | refine blk_drewN ?_ _ | refine blk_drew ?_ | refine blk_alloc ?_ _)); refine blk_far ?_ NB328_337.out _; (with_reducible repeat (first | refine blk_drewN ?_ _ | refine blk_drew ?_ | refine blk_alloc ?_ _)); refine blk_far ?_ NB328_337.out _; (with_reducible repeat (first | refine blk_drewN ?_ _ | refine blk_drew ?_ | refine blk_alloc ?_ _)); refine blk_far ?_ NB328_337.out _; (with_reducible repeat (first | refine blk_drewN ?_ _ | refine blk_drew ?_ | refine blk_alloc ?_ _)); refine blk_far ?_ NB328_337.out _; (with_reducible repeat (first | refine blk_drewN ?_ _ | refine blk_drew ?_ | refine blk_alloc ?_ _)); exact BK328.out) hb); have n2_ := Aside0.mk (blk_below (g := gb329) (o := .cells #[.int .i64 a2_0, .int .i64 a2_1, .int .i64 a2_2] 27 (0, 0)) (by (with_reducible repeat (first | refine blk_drewN ?_ _ | refine blk_drew ?_ | refine blk_alloc ?_ _)); refine blk_far ?_ NB329_337.out _; (with_reducible repeat (first | refine blk_drewN ?_ _ | refine blk_drew ?_ | refine blk_alloc ?_ _)); refine blk_far ?_ NB329_337.out _; (with_reducible repeat (first | refine blk_drewN ?_ _ | refine blk_drew ?_ | refine blk_alloc ?_ _)); refine blk_far ?_ NB329_337.out _; (with_reducible repeat (first | refine blk_drewN ?_ _ | refine blk_drew ?_ | refine blk_alloc ?_ _)); refine blk_far ?_ NB329_337.out _; (with_reducible repeat (first | refine blk_drewN ?_ _ | refine blk_drew ?_ | refine blk_alloc ?_ _)); exact BK329.out) hb); have n3_ := Aside0.mk (blk_below (g := gb330) (o := .cells #[.int .i64 a3_0, .int .i64 a3_1, .int .i64 a3_2] 27 (0, 0)) (by (with_reducible repeat (first | refine blk_drewN ?_ _ | refine blk_drew ?_ | refine blk_alloc ?_ _)); refine blk_far ?_ NB330_337.out _; (with_reducible repeat (first | refine blk_drewN ?_ _ | refine blk_drew ?_ | refine blk_alloc ?_ _)); refine blk_far ?_ NB330_337.out _; (with_reducible repeat (first | refine blk_drewN ?_ _ | refine blk_drew ?_ | refine blk_alloc ?_ _)); refine blk_far ?_ NB330_337.out _; (with_reducible repeat (first | refine blk_drewN ?_ _ | refine blk_drew ?_ | refine blk_alloc ?_ _)); refine blk_far ?_ NB330_337.out _; (with_reducible repeat (first | refine blk_drewN ?_ _ | refine blk_drew ?_ | refine blk_alloc ?_ _)); exact BK330.out) hb); have n4_ := Aside0.mk (blk_below (g := gb337) (o := .cells #[.int .i64 t332, .int .i64 t333, .int .i64 t334, .bool t335] 25 (0, 0)) (by (with_reducible repeat (first | refine blk_drewN ?_ _ | refine blk_drew ?_ | refine blk_alloc ?_ _)); refine blk_put (cs := #[.int .i64 t332, .int .i64 t333, .int .i64 t334, .bool false]) ?_ 3 _ rfl; (with_reducible repeat (first | refine blk_drewN ?_ _ | refine blk_drew ?_ | refine blk_alloc ?_ _)); refine blk_put (cs := #[.int .i64 t332, .int .i64 t333, .int .i64 0, .bool false]) ?_ 2 _ rfl; (with_reducible repeat (first | refine blk_drewN ?_ _ | refine blk_drew ?_ | refine blk_alloc ?_ _)); refine blk_put (cs := #[.int .i64 t332, .int .i64 0, .int .i64 0, .bool false]) ?_ 1 _ rfl; (with_reducible repeat (first | refine blk_drewN ?_ _ | refine blk_drew ?_ | refine blk_alloc ?_ _)); refine blk_put (cs := #[.int .i64 0, .int .i64 0, .int .i64 0, .bool false]) ?_ 0 _ rfl; (with_reducible repeat (first | refine blk_drewN ?_ _ | refine blk_drew ?_ | refine blk_alloc ?_ _)); exact BK337.out) hb); have n5_ := Aside0.mk (below_step (by repeat (first | (with_reducible first | exact HB.out | apply below_alloc | apply pw_below_drewN | apply below_drew1 | refine below_set ?_ GE327.out | refine below_set ?_ GE328.out | refine below_set ?_ GE329.out | refine below_set ?_ GE330.out | refine below_set ?_ GE337.out) | exact HB.out)) hb); clear BK327; clear BK328; clear BK329; clear BK330; clear BK337; clear HB; have BK327 := n0_; have BK328 := n1_; have BK329 := n2_; have BK330 := n3_; have BK337 := n4_; have HB := n5_; clear n0_ n1_ n2_ n3_ n4_ n5_; (try clear hb); (try clear hb2); (try clear hk); (try clear hi)) | ((with_reducible refine gate_dst (N := 13) rfl ?_); refine box_event ?hg (N := 13) ?hd (cs := #[.int .i64 0, .int .i64 0, .int .i64 0, .bool false]) (t := 25) ?hr ?_; (case hd => rfl); (case hg => rfl); (case hr => first | (go_simp; done) | (go_simp; rfl)); intro gb343 hg w71 hbox hb; have n0_ := Aside0.mk (blk_below (g := gb327) (o := .cells #[.string a0_0, .int .i64 a0_1, .int .i64 a0_2, .int .i64 a0_3, .int .i64 a0_4, .int .i64 a0_5, .int .i64 a0_6, .int .i64 a0_7] 23 (0, 0)) (by (with_reducible repeat (first | refine blk_drewN ?_ _ | refine blk_drew ?_ | refine blk_alloc ?_ _)); exact BK327.out) hb); have n1_ := Aside0.mk (blk_below (g := gb328) (o := .cells #[.int .i64 a1_0, .int .i64 a1_1, .int .i64 a1_2, .bool a1_3] 25 (0, 0)) (by (with_reducible repeat (first | refine blk_drewN ?_ _ | refine blk_drew ?_ | refine blk_alloc ?_ _)); exact BK328.out) hb); have n2_ := Aside0.mk (blk_below (g := gb329) (o := .cells #[.int .i64 a2_0, .int .i64 a2_1, .int .i64 a2_2] 27 (0, 0)) (by (with_reducible repeat (first | refine blk_drewN ?_ _ | refine blk_drew ?_ | refine blk_alloc ?_ _)); exact BK329.out) hb); have n3_ := Aside0.mk (blk_below (g := gb330) (o := .cells #[.int .i64 a3_0, .int .i64 a3_1, .int .i64 a3_2] 27 (0, 0)) (by (with_reducible repeat (first | refine blk_drewN ?_ _ | refine blk_drew ?_ | refine blk_alloc ?_ _)); exact BK330.out) hb); have n4_ := Aside0.mk (blk_below (g := gb337) (o := .cells #[.int .i64 t332, .int .i64 t333, .int .i64 t334, .bool t335] 25 (0, 0)) (by (with_reducible repeat (first | refine blk_drewN ?_ _ | refine blk_drew ?_ | refine blk_alloc ?_ _)); exact BK337.out) hb); have n5_ := Aside0.mk (below_step (by repeat (first | (with_reducible first | exact HB.out | apply below_alloc | apply pw_below_drewN | apply below_drew1 | refine below_set ?_ GE327.out | refine below_set ?_ GE328.out | refine below_set ?_ GE329.out | refine below_set ?_ GE330.out | refine below_set ?_ GE337.out) | exact HB.out)) hb); have n6_ := Aside0.mk (hbox); have n7_ := Aside0.mk ((by rw [hg]; exact (below_size (by repeat (first | (with_reducible first | exact HB.out | apply below_alloc | apply pw_below_drewN | apply below_drew1 | refine below_set ?_ GE327.out | refine below_set ?_ GE328.out | refine below_set ?_ GE329.out | refine below_set ?_ GE330.out | refine below_set ?_ GE337.out) | exact HB.out))) : w.heap.size ≤ gb343)); have n8_ := Aside0.mk ((by rw [hg]; exact (below_size (by repeat (first | (with_reducible first | exact HB.out | apply below_alloc | apply pw_below_drewN | apply below_drew1 | refine below_set ?_ GE327.out | refine below_set ?_ GE328.out | refine below_set ?_ GE329.out | refine below_set ?_ GE330.out | refine below_set ?_ GE337.out) | exact HB.out))) : w.heap.size ≤ gb343)); have n9_ := Aside0.mk ((by rw [hg]; exact Nat.ne_of_lt (blk_lt (g := gb327) (o := .cells #[.string a0_0, .int .i64 a0_1, .int .i64 a0_2, .int .i64 a0_3, .int .i64 a0_4, .int .i64 a0_5, .int .i64 a0_6, .int .i64 a0_7] 23 (0, 0)) (by (with_reducible repeat (first | refine blk_drewN ?_ _ | refine blk_drew ?_ | refine blk_alloc ?_ _)); exact BK327.out)) : gb327 ≠ gb343)); have n10_ := Aside0.mk ((by rw [hg]; exact Nat.ne_of_gt (blk_lt (g := gb327) (o := .cells #[.string a0_0, .int .i64 a0_1, .int .i64 a0_2, .int .i64 a0_3, .int .i64 a0_4, .int .i64 a0_5, .int .i64 a0_6, .int .i64 a0_7] 23 (0, 0)) (by (with_reducible repeat (first | refine blk_drewN ?_ _ | refine blk_drew ?_ | refine blk_alloc ?_ _)); exact BK327.out)) : gb343 ≠ gb327)); have n11_ := Aside0.mk ((by rw [hg]; exact Nat.ne_of_lt (blk_lt (g := gb328) (o := .cells #[.int .i64 a1_0, .int .i64 a1_1, .int .i64 a1_2, .bool a1_3] 25 (0, 0)) (by (with_reducible repeat (first | refine blk_drewN ?_ _ | refine blk_drew ?_ | refine blk_alloc ?_ _)); exact BK328.out)) : gb328 ≠ gb343)); have n12_ := Aside0.mk ((by rw [hg]; exact Nat.ne_of_gt (blk_lt (g := gb328) (o := .cells #[.int .i64 a1_0, .int .i64 a1_1, .int .i64 a1_2, .bool a1_3] 25 (0, 0)) (by (with_reducible repeat (first | refine blk_drewN ?_ _ | refine blk_drew ?_ | refine blk_alloc ?_ _)); exact BK328.out)) : gb343 ≠ gb328)); have n13_ := Aside0.mk ((by rw [hg]; exact Nat.ne_of_lt (blk_lt (g := gb329) (o := .cells #[.int .i64 a2_0, .int .i64 a2_1, .int .i64 a2_2] 27 (0, 0)) (by (with_reducible repeat (first | refine blk_drewN ?_ _ | refine blk_drew ?_ | refine blk_alloc ?_ _)); exact BK329.out)) : gb329 ≠ gb343)); have n14_ := Aside0.mk ((by rw [hg]; exact Nat.ne_of_gt (blk_lt (g := gb329) (o := .cells #[.int .i64 a2_0, .int .i64 a2_1, .int .i64 a2_2] 27 (0, 0)) (by (with_reducible repeat (first | refine blk_drewN ?_ _ | refine blk_drew ?_ | refine blk_alloc ?_ _)); exact BK329.out)) : gb343 ≠ gb329)); have n15_ := Aside0.mk ((by rw [hg]; exact Nat.ne_of_lt (blk_lt (g := gb330) (o := .cells #[.int .i64 a3_0, .int .i64 a3_1, .int .i64 a3_2] 27 (0, 0)) (by (with_reducible repeat (first | refine blk_drewN ?_ _ | refine blk_drew ?_ | refine blk_alloc ?_ _)); exact BK330.out)) : gb330 ≠ gb343)); have n16_ := Aside0.mk ((by rw [hg]; exact Nat.ne_of_gt (blk_lt (g := gb330) (o := .cells #[.int .i64 a3_0, .int .i64 a3_1, .int .i64 a3_2] 27 (0, 0)) (by (with_reducible repeat (first | refine blk_drewN ?_ _ | refine blk_drew ?_ | refine blk_alloc ?_ _)); exact BK330.out)) : gb343 ≠ gb330)); have n17_ := Aside0.mk ((by rw [hg]; exact Nat.ne_of_lt (blk_lt (g := gb337) (o := .cells #[.int .i64 t332, .int .i64 t333, .int .i64 t334, .bool t335] 25 (0, 0)) (by (with_reducible repeat (first | refine blk_drewN ?_ _ | refine blk_drew ?_ | refine blk_alloc ?_ _)); exact BK337.out)) : gb337 ≠ gb343)); have n18_ := Aside0.mk ((by rw [hg]; exact Nat.ne_of_gt (blk_lt (g := gb337) (o := .cells #[.int .i64 t332, .int .i64 t333, .int .i64 t334, .bool t335] 25 (0, 0)) (by (with_reducible repeat (first | refine blk_drewN ?_ _ | refine blk_drew ?_ | refine blk_alloc ?_ _)); exact BK337.out)) : gb343 ≠ gb337)); clear BK327; clear BK328; clear BK329; clear BK330; clear BK337; clear HB; have BK327 := n0_; have BK328 := n1_; have BK329 := n2_; have BK330 := n3_; have BK337 := n4_; have HB := n5_; have BK343 := n6_; have GW343 := n7_; have GE343 := n8_; have NB327_343 := n9_; have NB343_327 := n10_; have NB328_343 := n11_; have NB343_328 := n12_; have NB329_343 := n13_; have NB343_329 := n14_; have NB330_343 := n15_; have NB343_330 := n16_; have NB337_343 := n17_; have NB343_337 := n18_; clear n0_ n1_ n2_ n3_ n4_ n5_ n6_ n7_ n8_ n9_ n10_ n11_ n12_ n13_ n14_ n15_ n16_ n17_ n18_; clear hb hbox hg; have hnb72 := NB343_327.out; have hnc72 := NB327_343.out; have hnb73 := NB343_328.out; have hnc73 := NB328_343.out; have hnb74 := NB343_329.out; have hnc74 := NB329_343.out; have hnb75 := NB343_330.out; have hnc75 := NB330_343.out; have hnb76 := NB343_337.out; have hnc76 := NB337_343.out; have hcz77_0 : w71.cell? ⟨gb343, 0, none⟩ = some (.int .i64 0) := (blk_cell BK343.out 0).trans rfl; have hcz77_1 : w71.cell? ⟨gb343, 1, none⟩ = some (.int .i64 0) := (blk_cell BK343.out 1).trans rfl; have hcz77_2 : w71.cell? ⟨gb343, 2, none⟩ = some (.int .i64 0) := (blk_cell BK343.out 2).trans rfl; have hcz77_3 : w71.cell? ⟨gb343, 3, none⟩ = some (.bool false) := (blk_cell BK343.out 3).trans rfl; have hfz77_0 := blk_frozen BK343.out 0; have hfz77_1 := blk_frozen BK343.out 1; have hfz77_2 := blk_frozen BK343.out 2; have hfz77_3 := blk_frozen BK343.out 3))
        (try simp only [Act.put, List.setIfInBounds_toArray, List.set_cons_zero, List.set_cons_succ])
        go_cut [67] (fun v67 wc => ∃ (kq : Nat) (x67_49 : Bool), v67 = .bool x67_49 ∧ Aside0 (chargeparklaw12_ChargerExchanged.j1 kq true t336 t342 x67_49 a0_0 a0_1 a0_2 a0_3 a0_4 a0_5 a0_6 a0_7 a2_0 a2_1 a2_2 a3_0 a3_1 a3_2 t332 t333 t334 t335 t338 t339 t340 t341 = some r) ∧ Aside0 (kq ≤ kj6) ∧ Aside0 (wc.heap[gb327]? = some (.cells #[.string a0_0, .int .i64 a0_1, .int .i64 a0_2, .int .i64 a0_3, .int .i64 a0_4, .int .i64 a0_5, .int .i64 a0_6, .int .i64 a0_7] 23 (0, 0))) ∧ Aside0 (wc.heap[gb328]? = some (.cells #[.int .i64 a1_0, .int .i64 a1_1, .int .i64 a1_2, .bool a1_3] 25 (0, 0))) ∧ Aside0 (wc.heap[gb329]? = some (.cells #[.int .i64 a2_0, .int .i64 a2_1, .int .i64 a2_2] 27 (0, 0))) ∧ Aside0 (wc.heap[gb330]? = some (.cells #[.int .i64 a3_0, .int .i64 a3_1, .int .i64 a3_2] 27 (0, 0))) ∧ Aside0 (wc.heap[gb337]? = some (.cells #[.int .i64 t332, .int .i64 t333, .int .i64 t334, .bool t335] 25 (0, 0))) ∧ Aside0 (wc.heap[gb343]? = some (.cells #[.int .i64 t338, .int .i64 t339, .int .i64 t340, .bool t341] 25 (0, 0))) ∧ Aside0 (Below w.heap.size w wc))
        case first =>
          have H := HC50.out
          clear HC50
          by_cases c78 : t336 = 0
          · rw [if_pos c78] at H
            have c78b0 : (t336 == 0) = true := beq_iff_eq.mpr c78
            have c78b1 : (t336 != 0) = false := bne_eq_false_iff_eq.mpr c78
            clear c78
            (first | rw [c78b0] | (simp only [i64_w, i32_w]; rw [c78b0]) | skip)
            have H' := Aside0.mk H
            clear H
            go_wp2
            go_meet
            case rel => exact ⟨_, ((t342 != 0)), (by first | rfl | (simp; done) | (simp [*]; done)), H', ⟨by have := HJ6.out; first | omega | exact Nat.le_refl _⟩, ⟨by (with_reducible repeat (first | refine blk_drewN ?_ _ | refine blk_drew ?_ | refine blk_alloc ?_ _)); refine blk_far ?_ NB327_343.out _; (with_reducible repeat (first | refine blk_drewN ?_ _ | refine blk_drew ?_ | refine blk_alloc ?_ _)); refine blk_far ?_ NB327_343.out _; (with_reducible repeat (first | refine blk_drewN ?_ _ | refine blk_drew ?_ | refine blk_alloc ?_ _)); refine blk_far ?_ NB327_343.out _; (with_reducible repeat (first | refine blk_drewN ?_ _ | refine blk_drew ?_ | refine blk_alloc ?_ _)); refine blk_far ?_ NB327_343.out _; (with_reducible repeat (first | refine blk_drewN ?_ _ | refine blk_drew ?_ | refine blk_alloc ?_ _)); exact BK327.out⟩, ⟨by (with_reducible repeat (first | refine blk_drewN ?_ _ | refine blk_drew ?_ | refine blk_alloc ?_ _)); refine blk_far ?_ NB328_343.out _; (with_reducible repeat (first | refine blk_drewN ?_ _ | refine blk_drew ?_ | refine blk_alloc ?_ _)); refine blk_far ?_ NB328_343.out _; (with_reducible repeat (first | refine blk_drewN ?_ _ | refine blk_drew ?_ | refine blk_alloc ?_ _)); refine blk_far ?_ NB328_343.out _; (with_reducible repeat (first | refine blk_drewN ?_ _ | refine blk_drew ?_ | refine blk_alloc ?_ _)); refine blk_far ?_ NB328_343.out _; (with_reducible repeat (first | refine blk_drewN ?_ _ | refine blk_drew ?_ | refine blk_alloc ?_ _)); exact BK328.out⟩, ⟨by (with_reducible repeat (first | refine blk_drewN ?_ _ | refine blk_drew ?_ | refine blk_alloc ?_ _)); refine blk_far ?_ NB329_343.out _; (with_reducible repeat (first | refine blk_drewN ?_ _ | refine blk_drew ?_ | refine blk_alloc ?_ _)); refine blk_far ?_ NB329_343.out _; (with_reducible repeat (first | refine blk_drewN ?_ _ | refine blk_drew ?_ | refine blk_alloc ?_ _)); refine blk_far ?_ NB329_343.out _; (with_reducible repeat (first | refine blk_drewN ?_ _ | refine blk_drew ?_ | refine blk_alloc ?_ _)); refine blk_far ?_ NB329_343.out _; (with_reducible repeat (first | refine blk_drewN ?_ _ | refine blk_drew ?_ | refine blk_alloc ?_ _)); exact BK329.out⟩, ⟨by (with_reducible repeat (first | refine blk_drewN ?_ _ | refine blk_drew ?_ | refine blk_alloc ?_ _)); refine blk_far ?_ NB330_343.out _; (with_reducible repeat (first | refine blk_drewN ?_ _ | refine blk_drew ?_ | refine blk_alloc ?_ _)); refine blk_far ?_ NB330_343.out _; (with_reducible repeat (first | refine blk_drewN ?_ _ | refine blk_drew ?_ | refine blk_alloc ?_ _)); refine blk_far ?_ NB330_343.out _; (with_reducible repeat (first | refine blk_drewN ?_ _ | refine blk_drew ?_ | refine blk_alloc ?_ _)); refine blk_far ?_ NB330_343.out _; (with_reducible repeat (first | refine blk_drewN ?_ _ | refine blk_drew ?_ | refine blk_alloc ?_ _)); exact BK330.out⟩, ⟨by (with_reducible repeat (first | refine blk_drewN ?_ _ | refine blk_drew ?_ | refine blk_alloc ?_ _)); refine blk_far ?_ NB337_343.out _; (with_reducible repeat (first | refine blk_drewN ?_ _ | refine blk_drew ?_ | refine blk_alloc ?_ _)); refine blk_far ?_ NB337_343.out _; (with_reducible repeat (first | refine blk_drewN ?_ _ | refine blk_drew ?_ | refine blk_alloc ?_ _)); refine blk_far ?_ NB337_343.out _; (with_reducible repeat (first | refine blk_drewN ?_ _ | refine blk_drew ?_ | refine blk_alloc ?_ _)); refine blk_far ?_ NB337_343.out _; (with_reducible repeat (first | refine blk_drewN ?_ _ | refine blk_drew ?_ | refine blk_alloc ?_ _)); exact BK337.out⟩, ⟨by (with_reducible repeat (first | refine blk_drewN ?_ _ | refine blk_drew ?_ | refine blk_alloc ?_ _)); refine blk_put (cs := #[.int .i64 t338, .int .i64 t339, .int .i64 t340, .bool false]) ?_ 3 _ rfl; (with_reducible repeat (first | refine blk_drewN ?_ _ | refine blk_drew ?_ | refine blk_alloc ?_ _)); refine blk_put (cs := #[.int .i64 t338, .int .i64 t339, .int .i64 0, .bool false]) ?_ 2 _ rfl; (with_reducible repeat (first | refine blk_drewN ?_ _ | refine blk_drew ?_ | refine blk_alloc ?_ _)); refine blk_put (cs := #[.int .i64 t338, .int .i64 0, .int .i64 0, .bool false]) ?_ 1 _ rfl; (with_reducible repeat (first | refine blk_drewN ?_ _ | refine blk_drew ?_ | refine blk_alloc ?_ _)); refine blk_put (cs := #[.int .i64 0, .int .i64 0, .int .i64 0, .bool false]) ?_ 0 _ rfl; (with_reducible repeat (first | refine blk_drewN ?_ _ | refine blk_drew ?_ | refine blk_alloc ?_ _)); exact BK343.out⟩, ⟨by repeat (first | (with_reducible first | exact HB.out | apply below_alloc | apply pw_below_drewN | apply below_drew1 | refine below_set ?_ GE327.out | refine below_set ?_ GE328.out | refine below_set ?_ GE329.out | refine below_set ?_ GE330.out | refine below_set ?_ GE337.out | refine below_set ?_ GE343.out) | exact HB.out)⟩⟩
          · rw [if_neg c78] at H
            have c78b0 : (t336 == 0) = false := beq_eq_false_iff_ne.mpr c78
            have c78b1 : (t336 != 0) = true := bne_iff_ne.mpr c78
            (first | rw [c78b0] | (simp only [i64_w, i32_w]; rw [c78b0]) | skip)
            have H' := Aside0.mk H
            clear H
            go_wp2
            go_meet
            case rel => exact ⟨_, (true), (by first | rfl | (simp; done) | (simp [*]; done)), H', ⟨by have := HJ6.out; first | omega | exact Nat.le_refl _⟩, ⟨by (with_reducible repeat (first | refine blk_drewN ?_ _ | refine blk_drew ?_ | refine blk_alloc ?_ _)); refine blk_far ?_ NB327_343.out _; (with_reducible repeat (first | refine blk_drewN ?_ _ | refine blk_drew ?_ | refine blk_alloc ?_ _)); refine blk_far ?_ NB327_343.out _; (with_reducible repeat (first | refine blk_drewN ?_ _ | refine blk_drew ?_ | refine blk_alloc ?_ _)); refine blk_far ?_ NB327_343.out _; (with_reducible repeat (first | refine blk_drewN ?_ _ | refine blk_drew ?_ | refine blk_alloc ?_ _)); refine blk_far ?_ NB327_343.out _; (with_reducible repeat (first | refine blk_drewN ?_ _ | refine blk_drew ?_ | refine blk_alloc ?_ _)); exact BK327.out⟩, ⟨by (with_reducible repeat (first | refine blk_drewN ?_ _ | refine blk_drew ?_ | refine blk_alloc ?_ _)); refine blk_far ?_ NB328_343.out _; (with_reducible repeat (first | refine blk_drewN ?_ _ | refine blk_drew ?_ | refine blk_alloc ?_ _)); refine blk_far ?_ NB328_343.out _; (with_reducible repeat (first | refine blk_drewN ?_ _ | refine blk_drew ?_ | refine blk_alloc ?_ _)); refine blk_far ?_ NB328_343.out _; (with_reducible repeat (first | refine blk_drewN ?_ _ | refine blk_drew ?_ | refine blk_alloc ?_ _)); refine blk_far ?_ NB328_343.out _; (with_reducible repeat (first | refine blk_drewN ?_ _ | refine blk_drew ?_ | refine blk_alloc ?_ _)); exact BK328.out⟩, ⟨by (with_reducible repeat (first | refine blk_drewN ?_ _ | refine blk_drew ?_ | refine blk_alloc ?_ _)); refine blk_far ?_ NB329_343.out _; (with_reducible repeat (first | refine blk_drewN ?_ _ | refine blk_drew ?_ | refine blk_alloc ?_ _)); refine blk_far ?_ NB329_343.out _; (with_reducible repeat (first | refine blk_drewN ?_ _ | refine blk_drew ?_ | refine blk_alloc ?_ _)); refine blk_far ?_ NB329_343.out _; (with_reducible repeat (first | refine blk_drewN ?_ _ | refine blk_drew ?_ | refine blk_alloc ?_ _)); refine blk_far ?_ NB329_343.out _; (with_reducible repeat (first | refine blk_drewN ?_ _ | refine blk_drew ?_ | refine blk_alloc ?_ _)); exact BK329.out⟩, ⟨by (with_reducible repeat (first | refine blk_drewN ?_ _ | refine blk_drew ?_ | refine blk_alloc ?_ _)); refine blk_far ?_ NB330_343.out _; (with_reducible repeat (first | refine blk_drewN ?_ _ | refine blk_drew ?_ | refine blk_alloc ?_ _)); refine blk_far ?_ NB330_343.out _; (with_reducible repeat (first | refine blk_drewN ?_ _ | refine blk_drew ?_ | refine blk_alloc ?_ _)); refine blk_far ?_ NB330_343.out _; (with_reducible repeat (first | refine blk_drewN ?_ _ | refine blk_drew ?_ | refine blk_alloc ?_ _)); refine blk_far ?_ NB330_343.out _; (with_reducible repeat (first | refine blk_drewN ?_ _ | refine blk_drew ?_ | refine blk_alloc ?_ _)); exact BK330.out⟩, ⟨by (with_reducible repeat (first | refine blk_drewN ?_ _ | refine blk_drew ?_ | refine blk_alloc ?_ _)); refine blk_far ?_ NB337_343.out _; (with_reducible repeat (first | refine blk_drewN ?_ _ | refine blk_drew ?_ | refine blk_alloc ?_ _)); refine blk_far ?_ NB337_343.out _; (with_reducible repeat (first | refine blk_drewN ?_ _ | refine blk_drew ?_ | refine blk_alloc ?_ _)); refine blk_far ?_ NB337_343.out _; (with_reducible repeat (first | refine blk_drewN ?_ _ | refine blk_drew ?_ | refine blk_alloc ?_ _)); refine blk_far ?_ NB337_343.out _; (with_reducible repeat (first | refine blk_drewN ?_ _ | refine blk_drew ?_ | refine blk_alloc ?_ _)); exact BK337.out⟩, ⟨by (with_reducible repeat (first | refine blk_drewN ?_ _ | refine blk_drew ?_ | refine blk_alloc ?_ _)); refine blk_put (cs := #[.int .i64 t338, .int .i64 t339, .int .i64 t340, .bool false]) ?_ 3 _ rfl; (with_reducible repeat (first | refine blk_drewN ?_ _ | refine blk_drew ?_ | refine blk_alloc ?_ _)); refine blk_put (cs := #[.int .i64 t338, .int .i64 t339, .int .i64 0, .bool false]) ?_ 2 _ rfl; (with_reducible repeat (first | refine blk_drewN ?_ _ | refine blk_drew ?_ | refine blk_alloc ?_ _)); refine blk_put (cs := #[.int .i64 t338, .int .i64 0, .int .i64 0, .bool false]) ?_ 1 _ rfl; (with_reducible repeat (first | refine blk_drewN ?_ _ | refine blk_drew ?_ | refine blk_alloc ?_ _)); refine blk_put (cs := #[.int .i64 0, .int .i64 0, .int .i64 0, .bool false]) ?_ 0 _ rfl; (with_reducible repeat (first | refine blk_drewN ?_ _ | refine blk_drew ?_ | refine blk_alloc ?_ _)); exact BK343.out⟩, ⟨by repeat (first | (with_reducible first | exact HB.out | apply below_alloc | apply pw_below_drewN | apply below_drew1 | refine below_set ?_ GE327.out | refine below_set ?_ GE328.out | refine below_set ?_ GE329.out | refine below_set ?_ GE330.out | refine below_set ?_ GE337.out | refine below_set ?_ GE343.out) | exact HB.out)⟩⟩
        case rest =>
          clear HC50
          try clear c1
          try clear c2
          try clear p2
          try clear c3
          try clear c4
          try clear c5
          try clear c6
          try clear c7
          try clear c9
          try clear c10
          try clear c11
          try clear c13
          try clear c14
          try clear c15
          try clear c17
          try clear c18
          try clear c21
          try clear c22
          try clear c22b0
          try clear c23
          try clear c24
          try clear c25
          try clear c27
          try clear c27b0
          try clear c28
          try clear c29
          try clear c30
          try clear c32
          try clear c32b0
          try clear c32b1
          try clear c33
          try clear c34
          try clear c35
          try clear c37
          try clear c38
          try clear c40
          try clear c41
          try clear c42
          try clear c44
          try clear c45
          try clear c47
          try clear c51
          try clear c52
          try clear c53
          try clear c55
          try clear c56
          try clear c58
          try clear c62
          try clear c63
          try clear c64
          try clear c65
          try clear c72
          try clear c73
          try clear c74
          try clear c75
          try clear c76
          try clear c78
          try clear c78b0
          try clear c78b1
          try clear hcz16_0
          try clear hcz16_1
          try clear hcz16_2
          try clear hcz16_3
          try clear hcz16_4
          try clear hcz16_5
          try clear hcz16_6
          try clear hcz16_7
          try clear hcz19_0
          try clear hcz19_1
          try clear hcz19_2
          try clear hcz19_3
          try clear hcz26_0
          try clear hcz26_1
          try clear hcz26_2
          try clear hcz31_0
          try clear hcz31_1
          try clear hcz31_2
          try clear hcz36_0
          try clear hcz36_1
          try clear hcz36_2
          try clear hcz39_0
          try clear hcz39_1
          try clear hcz39_2
          try clear hcz43_0
          try clear hcz43_1
          try clear hcz43_2
          try clear hcz46_0
          try clear hcz46_1
          try clear hcz46_2
          try clear hcz54_0
          try clear hcz54_1
          try clear hcz54_2
          try clear hcz54_3
          try clear hcz54_4
          try clear hcz54_5
          try clear hcz54_6
          try clear hcz54_7
          try clear hcz57_0
          try clear hcz57_1
          try clear hcz57_2
          try clear hcz57_3
          try clear hcz59_0
          try clear hcz59_1
          try clear hcz59_2
          try clear hcz66_0
          try clear hcz66_1
          try clear hcz66_2
          try clear hcz66_3
          try clear hcz67_0
          try clear hcz67_1
          try clear hcz67_2
          try clear hcz67_3
          try clear hcz67_4
          try clear hcz67_5
          try clear hcz67_6
          try clear hcz67_7
          try clear hcz68_0
          try clear hcz68_1
          try clear hcz68_2
          try clear hcz68_3
          try clear hcz69_0
          try clear hcz69_1
          try clear hcz69_2
          try clear hcz77_0
          try clear hcz77_1
          try clear hcz77_2
          try clear hcz77_3
          try clear hfz16_0
          try clear hfz16_1
          try clear hfz16_2
          try clear hfz16_3
          try clear hfz16_4
          try clear hfz16_5
          try clear hfz16_6
          try clear hfz16_7
          try clear hfz19_0
          try clear hfz19_1
          try clear hfz19_2
          try clear hfz19_3
          try clear hfz26_0
          try clear hfz26_1
          try clear hfz26_2
          try clear hfz31_0
          try clear hfz31_1
          try clear hfz31_2
          try clear hfz36_0
          try clear hfz36_1
          try clear hfz36_2
          try clear hfz39_0
          try clear hfz39_1
          try clear hfz39_2
          try clear hfz43_0
          try clear hfz43_1
          try clear hfz43_2
          try clear hfz46_0
          try clear hfz46_1
          try clear hfz46_2
          try clear hfz54_0
          try clear hfz54_1
          try clear hfz54_2
          try clear hfz54_3
          try clear hfz54_4
          try clear hfz54_5
          try clear hfz54_6
          try clear hfz54_7
          try clear hfz57_0
          try clear hfz57_1
          try clear hfz57_2
          try clear hfz57_3
          try clear hfz59_0
          try clear hfz59_1
          try clear hfz59_2
          try clear hfz66_0
          try clear hfz66_1
          try clear hfz66_2
          try clear hfz66_3
          try clear hfz67_0
          try clear hfz67_1
          try clear hfz67_2
          try clear hfz67_3
          try clear hfz67_4
          try clear hfz67_5
          try clear hfz67_6
          try clear hfz67_7
          try clear hfz68_0
          try clear hfz68_1
          try clear hfz68_2
          try clear hfz68_3
          try clear hfz69_0
          try clear hfz69_1
          try clear hfz69_2
          try clear hfz77_0
          try clear hfz77_1
          try clear hfz77_2
          try clear hfz77_3
          try clear p2
          obtain ⟨kq, x67_49, rfl, HA, HJ49, BK327, BK328, BK329, BK330, BK337, BK343, HB⟩ := hcut
          cases kq with
          | zero => exact absurd HA.out (by simp [chargeparklaw12_ChargerExchanged.j1])
          | succ kj49 =>
            have H := HA.out
            clear HA
            simp only [chargeparklaw12_ChargerExchanged.j1] at H
            by_cases c79 : x67_49 = true
            · subst c79
              have H1 : (if t342 = 0 then ((charger_Step.f a0_0 a0_1 a0_2 a0_3 a0_4 a0_5 a0_6 a0_7 t338 t339 t340 t341 a2_0 a2_1 a2_2).bind fun bt344 => (if true = true then (some (bt344.2.2.2.2 == t336)) else (some false))) else (some true)) = some r := by rw [if_pos rfl] at H; exact H
              clear H
              have H := H1
              clear H1
              by_cases c80 : t342 = 0
              · rw [if_pos c80] at H
                have c80b0 : (t342 == 0) = true := beq_iff_eq.mpr c80
                have c80b1 : (t342 != 0) = false := bne_eq_false_iff_eq.mpr c80
                clear c80
                replace H := Option.bind_eq_some_iff.mp H
                obtain ⟨⟨t344, t345, t346, t347, t348⟩, A810, H⟩ := H
                replace H : (if true = true then (some (t348 == t336)) else (some false)) = some r := H
                have A81 := Aside0.mk A810
                clear A810
                by_cases c82 : (true = true)
                · clear c82
                  have H1 : (some (t348 == t336)) = some r := by rw [if_pos rfl] at H; exact H
                  clear H
                  have H := H1
                  clear H1
                  obtain rfl := Option.some.inj H
                  simp only [Option.some.injEq, Prod.mk.injEq] at H
                  obtain ⟨rfl⟩ := H
                  have hnb83 := NB327_328.out
                  have hnc83 := NB328_327.out
                  have hnb84 := NB327_329.out
                  have hnc84 := NB329_327.out
                  have hnb85 := NB327_330.out
                  have hnc85 := NB330_327.out
                  have hnb86 := NB327_337.out
                  have hnc86 := NB337_327.out
                  have hnb87 := NB327_343.out
                  have hnc87 := NB343_327.out
                  have hcz88_0 : wc.cell? ⟨gb327, 0, none⟩ = some (.string a0_0) := (blk_cell BK327.out 0).trans rfl
                  have hcz88_1 : wc.cell? ⟨gb327, 1, none⟩ = some (.int .i64 a0_1) := (blk_cell BK327.out 1).trans rfl
                  have hcz88_2 : wc.cell? ⟨gb327, 2, none⟩ = some (.int .i64 a0_2) := (blk_cell BK327.out 2).trans rfl
                  have hcz88_3 : wc.cell? ⟨gb327, 3, none⟩ = some (.int .i64 a0_3) := (blk_cell BK327.out 3).trans rfl
                  have hcz88_4 : wc.cell? ⟨gb327, 4, none⟩ = some (.int .i64 a0_4) := (blk_cell BK327.out 4).trans rfl
                  have hcz88_5 : wc.cell? ⟨gb327, 5, none⟩ = some (.int .i64 a0_5) := (blk_cell BK327.out 5).trans rfl
                  have hcz88_6 : wc.cell? ⟨gb327, 6, none⟩ = some (.int .i64 a0_6) := (blk_cell BK327.out 6).trans rfl
                  have hcz88_7 : wc.cell? ⟨gb327, 7, none⟩ = some (.int .i64 a0_7) := (blk_cell BK327.out 7).trans rfl
                  have hfz88_0 := blk_frozen BK327.out 0
                  have hfz88_1 := blk_frozen BK327.out 1
                  have hfz88_2 := blk_frozen BK327.out 2
                  have hfz88_3 := blk_frozen BK327.out 3
                  have hfz88_4 := blk_frozen BK327.out 4
                  have hfz88_5 := blk_frozen BK327.out 5
                  have hfz88_6 := blk_frozen BK327.out 6
                  have hfz88_7 := blk_frozen BK327.out 7
                  have hnb89 := NB343_328.out
                  have hnc89 := NB328_343.out
                  have hnb90 := NB343_329.out
                  have hnc90 := NB329_343.out
                  have hnb91 := NB343_330.out
                  have hnc91 := NB330_343.out
                  have hnb92 := NB343_337.out
                  have hnc92 := NB337_343.out
                  have hcz93_0 : wc.cell? ⟨gb343, 0, none⟩ = some (.int .i64 t338) := (blk_cell BK343.out 0).trans rfl
                  have hcz93_1 : wc.cell? ⟨gb343, 1, none⟩ = some (.int .i64 t339) := (blk_cell BK343.out 1).trans rfl
                  have hcz93_2 : wc.cell? ⟨gb343, 2, none⟩ = some (.int .i64 t340) := (blk_cell BK343.out 2).trans rfl
                  have hcz93_3 : wc.cell? ⟨gb343, 3, none⟩ = some (.bool t341) := (blk_cell BK343.out 3).trans rfl
                  have hfz93_0 := blk_frozen BK343.out 0
                  have hfz93_1 := blk_frozen BK343.out 1
                  have hfz93_2 := blk_frozen BK343.out 2
                  have hfz93_3 := blk_frozen BK343.out 3
                  have hnb94 := NB329_328.out
                  have hnc94 := NB328_329.out
                  have hnb95 := NB329_330.out
                  have hnc95 := NB330_329.out
                  have hnb96 := NB329_337.out
                  have hnc96 := NB337_329.out
                  have hcz97_0 : wc.cell? ⟨gb329, 0, none⟩ = some (.int .i64 a2_0) := (blk_cell BK329.out 0).trans rfl
                  have hcz97_1 : wc.cell? ⟨gb329, 1, none⟩ = some (.int .i64 a2_1) := (blk_cell BK329.out 1).trans rfl
                  have hcz97_2 : wc.cell? ⟨gb329, 2, none⟩ = some (.int .i64 a2_2) := (blk_cell BK329.out 2).trans rfl
                  have hfz97_0 := blk_frozen BK329.out 0
                  have hfz97_1 := blk_frozen BK329.out 1
                  have hfz97_2 := blk_frozen BK329.out 2
                  go_wp2_with (first | ((with_reducible refine gate_callee (f := 11) rfl ?_); refine goesL_ (some 74) rfl rfl Tryd.func11 (by kernel_rfl) rfl #[.agg #[.string a0_0, .int .i64 a0_1, .int .i64 a0_2, .int .i64 a0_3, .int .i64 a0_4, .int .i64 a0_5, .int .i64 a0_6, .int .i64 a0_7], .agg #[.int .i64 t338, .int .i64 t339, .int .i64 t340, .bool t341], .agg #[.int .i64 a2_0, .int .i64 a2_1, .int .i64 a2_2]] rfl (by (try simp only [List.map_toArray, List.map_cons, List.map_nil]); first | done | rfl | (simp only [List.length_drop, List.length_take]; rfl)) ?_; (with_reducible refine (charger_Step.calls a0_0 a0_1 a0_2 a0_3 a0_4 a0_5 a0_6 a0_7 t338 t339 t340 t341 a2_0 a2_1 a2_2 t344 t345 t346 t347 t348 _ (hG.below (by repeat (first | (with_reducible first | exact HB.out | apply below_alloc | apply pw_below_drewN | apply below_drew1) | exact HB.out | (refine Below.setCell ?_ (Aside0.out (by assumption)) _)))) A81.out).mono ?_); rintro e w98 ⟨rfl, hb⟩; refine ⟨_, rfl, ?_⟩; have n0_ := Aside0.mk (blk_below (g := gb327) (o := .cells #[.string a0_0, .int .i64 a0_1, .int .i64 a0_2, .int .i64 a0_3, .int .i64 a0_4, .int .i64 a0_5, .int .i64 a0_6, .int .i64 a0_7] 23 (0, 0)) (by (with_reducible repeat (first | refine blk_drewN ?_ _ | refine blk_drew ?_ | refine blk_alloc ?_ _)); exact BK327.out) hb); have n1_ := Aside0.mk (blk_below (g := gb328) (o := .cells #[.int .i64 a1_0, .int .i64 a1_1, .int .i64 a1_2, .bool a1_3] 25 (0, 0)) (by (with_reducible repeat (first | refine blk_drewN ?_ _ | refine blk_drew ?_ | refine blk_alloc ?_ _)); exact BK328.out) hb); have n2_ := Aside0.mk (blk_below (g := gb329) (o := .cells #[.int .i64 a2_0, .int .i64 a2_1, .int .i64 a2_2] 27 (0, 0)) (by (with_reducible repeat (first | refine blk_drewN ?_ _ | refine blk_drew ?_ | refine blk_alloc ?_ _)); exact BK329.out) hb); have n3_ := Aside0.mk (blk_below (g := gb330) (o := .cells #[.int .i64 a3_0, .int .i64 a3_1, .int .i64 a3_2] 27 (0, 0)) (by (with_reducible repeat (first | refine blk_drewN ?_ _ | refine blk_drew ?_ | refine blk_alloc ?_ _)); exact BK330.out) hb); have n4_ := Aside0.mk (blk_below (g := gb337) (o := .cells #[.int .i64 t332, .int .i64 t333, .int .i64 t334, .bool t335] 25 (0, 0)) (by (with_reducible repeat (first | refine blk_drewN ?_ _ | refine blk_drew ?_ | refine blk_alloc ?_ _)); exact BK337.out) hb); have n5_ := Aside0.mk (blk_below (g := gb343) (o := .cells #[.int .i64 t338, .int .i64 t339, .int .i64 t340, .bool t341] 25 (0, 0)) (by (with_reducible repeat (first | refine blk_drewN ?_ _ | refine blk_drew ?_ | refine blk_alloc ?_ _)); exact BK343.out) hb); have n6_ := Aside0.mk (below_step (by repeat (first | (with_reducible first | exact HB.out | apply below_alloc | apply pw_below_drewN | apply below_drew1 | refine below_set ?_ GE327.out | refine below_set ?_ GE328.out | refine below_set ?_ GE329.out | refine below_set ?_ GE330.out | refine below_set ?_ GE337.out | refine below_set ?_ GE343.out) | exact HB.out)) hb); clear BK327; clear BK328; clear BK329; clear BK330; clear BK337; clear BK343; clear HB; have BK327 := n0_; have BK328 := n1_; have BK329 := n2_; have BK330 := n3_; have BK337 := n4_; have BK343 := n5_; have HB := n6_; clear n0_ n1_ n2_ n3_ n4_ n5_ n6_; (try clear hb); (try clear hb2); (try clear hk); (try clear hi)) | ((with_reducible refine gate_dst (N := 15) rfl ?_); refine box_event ?hg (N := 15) ?hd (cs := #[.int .i64 0, .int .i64 0, .int .i64 0, .bool false]) (t := 25) ?hr ?_; (case hd => rfl); (case hg => rfl); (case hr => first | (go_simp; done) | (go_simp; rfl)); intro gb349 hg w99 hbox hb; have n0_ := Aside0.mk (blk_below (g := gb327) (o := .cells #[.string a0_0, .int .i64 a0_1, .int .i64 a0_2, .int .i64 a0_3, .int .i64 a0_4, .int .i64 a0_5, .int .i64 a0_6, .int .i64 a0_7] 23 (0, 0)) (by (with_reducible repeat (first | refine blk_drewN ?_ _ | refine blk_drew ?_ | refine blk_alloc ?_ _)); exact BK327.out) hb); have n1_ := Aside0.mk (blk_below (g := gb328) (o := .cells #[.int .i64 a1_0, .int .i64 a1_1, .int .i64 a1_2, .bool a1_3] 25 (0, 0)) (by (with_reducible repeat (first | refine blk_drewN ?_ _ | refine blk_drew ?_ | refine blk_alloc ?_ _)); exact BK328.out) hb); have n2_ := Aside0.mk (blk_below (g := gb329) (o := .cells #[.int .i64 a2_0, .int .i64 a2_1, .int .i64 a2_2] 27 (0, 0)) (by (with_reducible repeat (first | refine blk_drewN ?_ _ | refine blk_drew ?_ | refine blk_alloc ?_ _)); exact BK329.out) hb); have n3_ := Aside0.mk (blk_below (g := gb330) (o := .cells #[.int .i64 a3_0, .int .i64 a3_1, .int .i64 a3_2] 27 (0, 0)) (by (with_reducible repeat (first | refine blk_drewN ?_ _ | refine blk_drew ?_ | refine blk_alloc ?_ _)); exact BK330.out) hb); have n4_ := Aside0.mk (blk_below (g := gb337) (o := .cells #[.int .i64 t332, .int .i64 t333, .int .i64 t334, .bool t335] 25 (0, 0)) (by (with_reducible repeat (first | refine blk_drewN ?_ _ | refine blk_drew ?_ | refine blk_alloc ?_ _)); exact BK337.out) hb); have n5_ := Aside0.mk (blk_below (g := gb343) (o := .cells #[.int .i64 t338, .int .i64 t339, .int .i64 t340, .bool t341] 25 (0, 0)) (by (with_reducible repeat (first | refine blk_drewN ?_ _ | refine blk_drew ?_ | refine blk_alloc ?_ _)); exact BK343.out) hb); have n6_ := Aside0.mk (below_step (by repeat (first | (with_reducible first | exact HB.out | apply below_alloc | apply pw_below_drewN | apply below_drew1 | refine below_set ?_ GE327.out | refine below_set ?_ GE328.out | refine below_set ?_ GE329.out | refine below_set ?_ GE330.out | refine below_set ?_ GE337.out | refine below_set ?_ GE343.out) | exact HB.out)) hb); have n7_ := Aside0.mk (hbox); have n8_ := Aside0.mk ((by rw [hg]; exact (below_size (by repeat (first | (with_reducible first | exact HB.out | apply below_alloc | apply pw_below_drewN | apply below_drew1 | refine below_set ?_ GE327.out | refine below_set ?_ GE328.out | refine below_set ?_ GE329.out | refine below_set ?_ GE330.out | refine below_set ?_ GE337.out | refine below_set ?_ GE343.out) | exact HB.out))) : w.heap.size ≤ gb349)); have n9_ := Aside0.mk ((by rw [hg]; exact (below_size (by repeat (first | (with_reducible first | exact HB.out | apply below_alloc | apply pw_below_drewN | apply below_drew1 | refine below_set ?_ GE327.out | refine below_set ?_ GE328.out | refine below_set ?_ GE329.out | refine below_set ?_ GE330.out | refine below_set ?_ GE337.out | refine below_set ?_ GE343.out) | exact HB.out))) : w.heap.size ≤ gb349)); have n10_ := Aside0.mk ((by rw [hg]; exact Nat.ne_of_lt (blk_lt (g := gb327) (o := .cells #[.string a0_0, .int .i64 a0_1, .int .i64 a0_2, .int .i64 a0_3, .int .i64 a0_4, .int .i64 a0_5, .int .i64 a0_6, .int .i64 a0_7] 23 (0, 0)) (by (with_reducible repeat (first | refine blk_drewN ?_ _ | refine blk_drew ?_ | refine blk_alloc ?_ _)); exact BK327.out)) : gb327 ≠ gb349)); have n11_ := Aside0.mk ((by rw [hg]; exact Nat.ne_of_gt (blk_lt (g := gb327) (o := .cells #[.string a0_0, .int .i64 a0_1, .int .i64 a0_2, .int .i64 a0_3, .int .i64 a0_4, .int .i64 a0_5, .int .i64 a0_6, .int .i64 a0_7] 23 (0, 0)) (by (with_reducible repeat (first | refine blk_drewN ?_ _ | refine blk_drew ?_ | refine blk_alloc ?_ _)); exact BK327.out)) : gb349 ≠ gb327)); have n12_ := Aside0.mk ((by rw [hg]; exact Nat.ne_of_lt (blk_lt (g := gb328) (o := .cells #[.int .i64 a1_0, .int .i64 a1_1, .int .i64 a1_2, .bool a1_3] 25 (0, 0)) (by (with_reducible repeat (first | refine blk_drewN ?_ _ | refine blk_drew ?_ | refine blk_alloc ?_ _)); exact BK328.out)) : gb328 ≠ gb349)); have n13_ := Aside0.mk ((by rw [hg]; exact Nat.ne_of_gt (blk_lt (g := gb328) (o := .cells #[.int .i64 a1_0, .int .i64 a1_1, .int .i64 a1_2, .bool a1_3] 25 (0, 0)) (by (with_reducible repeat (first | refine blk_drewN ?_ _ | refine blk_drew ?_ | refine blk_alloc ?_ _)); exact BK328.out)) : gb349 ≠ gb328)); have n14_ := Aside0.mk ((by rw [hg]; exact Nat.ne_of_lt (blk_lt (g := gb329) (o := .cells #[.int .i64 a2_0, .int .i64 a2_1, .int .i64 a2_2] 27 (0, 0)) (by (with_reducible repeat (first | refine blk_drewN ?_ _ | refine blk_drew ?_ | refine blk_alloc ?_ _)); exact BK329.out)) : gb329 ≠ gb349)); have n15_ := Aside0.mk ((by rw [hg]; exact Nat.ne_of_gt (blk_lt (g := gb329) (o := .cells #[.int .i64 a2_0, .int .i64 a2_1, .int .i64 a2_2] 27 (0, 0)) (by (with_reducible repeat (first | refine blk_drewN ?_ _ | refine blk_drew ?_ | refine blk_alloc ?_ _)); exact BK329.out)) : gb349 ≠ gb329)); have n16_ := Aside0.mk ((by rw [hg]; exact Nat.ne_of_lt (blk_lt (g := gb330) (o := .cells #[.int .i64 a3_0, .int .i64 a3_1, .int .i64 a3_2] 27 (0, 0)) (by (with_reducible repeat (first | refine blk_drewN ?_ _ | refine blk_drew ?_ | refine blk_alloc ?_ _)); exact BK330.out)) : gb330 ≠ gb349)); have n17_ := Aside0.mk ((by rw [hg]; exact Nat.ne_of_gt (blk_lt (g := gb330) (o := .cells #[.int .i64 a3_0, .int .i64 a3_1, .int .i64 a3_2] 27 (0, 0)) (by (with_reducible repeat (first | refine blk_drewN ?_ _ | refine blk_drew ?_ | refine blk_alloc ?_ _)); exact BK330.out)) : gb349 ≠ gb330)); have n18_ := Aside0.mk ((by rw [hg]; exact Nat.ne_of_lt (blk_lt (g := gb337) (o := .cells #[.int .i64 t332, .int .i64 t333, .int .i64 t334, .bool t335] 25 (0, 0)) (by (with_reducible repeat (first | refine blk_drewN ?_ _ | refine blk_drew ?_ | refine blk_alloc ?_ _)); exact BK337.out)) : gb337 ≠ gb349)); have n19_ := Aside0.mk ((by rw [hg]; exact Nat.ne_of_gt (blk_lt (g := gb337) (o := .cells #[.int .i64 t332, .int .i64 t333, .int .i64 t334, .bool t335] 25 (0, 0)) (by (with_reducible repeat (first | refine blk_drewN ?_ _ | refine blk_drew ?_ | refine blk_alloc ?_ _)); exact BK337.out)) : gb349 ≠ gb337)); have n20_ := Aside0.mk ((by rw [hg]; exact Nat.ne_of_lt (blk_lt (g := gb343) (o := .cells #[.int .i64 t338, .int .i64 t339, .int .i64 t340, .bool t341] 25 (0, 0)) (by (with_reducible repeat (first | refine blk_drewN ?_ _ | refine blk_drew ?_ | refine blk_alloc ?_ _)); exact BK343.out)) : gb343 ≠ gb349)); have n21_ := Aside0.mk ((by rw [hg]; exact Nat.ne_of_gt (blk_lt (g := gb343) (o := .cells #[.int .i64 t338, .int .i64 t339, .int .i64 t340, .bool t341] 25 (0, 0)) (by (with_reducible repeat (first | refine blk_drewN ?_ _ | refine blk_drew ?_ | refine blk_alloc ?_ _)); exact BK343.out)) : gb349 ≠ gb343)); clear BK327; clear BK328; clear BK329; clear BK330; clear BK337; clear BK343; clear HB; have BK327 := n0_; have BK328 := n1_; have BK329 := n2_; have BK330 := n3_; have BK337 := n4_; have BK343 := n5_; have HB := n6_; have BK349 := n7_; have GW349 := n8_; have GE349 := n9_; have NB327_349 := n10_; have NB349_327 := n11_; have NB328_349 := n12_; have NB349_328 := n13_; have NB329_349 := n14_; have NB349_329 := n15_; have NB330_349 := n16_; have NB349_330 := n17_; have NB337_349 := n18_; have NB349_337 := n19_; have NB343_349 := n20_; have NB349_343 := n21_; clear n0_ n1_ n2_ n3_ n4_ n5_ n6_ n7_ n8_ n9_ n10_ n11_ n12_ n13_ n14_ n15_ n16_ n17_ n18_ n19_ n20_ n21_; clear hb hbox hg; have hnb100 := NB349_327.out; have hnc100 := NB327_349.out; have hnb101 := NB349_328.out; have hnc101 := NB328_349.out; have hnb102 := NB349_329.out; have hnc102 := NB329_349.out; have hnb103 := NB349_330.out; have hnc103 := NB330_349.out; have hnb104 := NB349_337.out; have hnc104 := NB337_349.out; have hnb105 := NB349_343.out; have hnc105 := NB343_349.out; have hcz106_0 : w99.cell? ⟨gb349, 0, none⟩ = some (.int .i64 0) := (blk_cell BK349.out 0).trans rfl; have hcz106_1 : w99.cell? ⟨gb349, 1, none⟩ = some (.int .i64 0) := (blk_cell BK349.out 1).trans rfl; have hcz106_2 : w99.cell? ⟨gb349, 2, none⟩ = some (.int .i64 0) := (blk_cell BK349.out 2).trans rfl; have hcz106_3 : w99.cell? ⟨gb349, 3, none⟩ = some (.bool false) := (blk_cell BK349.out 3).trans rfl; have hfz106_0 := blk_frozen BK349.out 0; have hfz106_1 := blk_frozen BK349.out 1; have hfz106_2 := blk_frozen BK349.out 2; have hfz106_3 := blk_frozen BK349.out 3))
                  go_ret
                  exact ⟨by first | rfl | (simp [errW_none, errW_some] <;> rfl) | (simp [*, errW_none, errW_some] <;> rfl), by repeat (first | (with_reducible first | exact HB.out | apply below_alloc | apply pw_below_drewN | apply below_drew1 | refine below_set ?_ GE327.out | refine below_set ?_ GE328.out | refine below_set ?_ GE329.out | refine below_set ?_ GE330.out | refine below_set ?_ GE337.out | refine below_set ?_ GE343.out | refine below_set ?_ GE349.out) | exact HB.out)⟩
                · exact absurd rfl c82
              · rw [if_neg c80] at H
                have c80b0 : (t342 == 0) = false := beq_eq_false_iff_ne.mpr c80
                have c80b1 : (t342 != 0) = true := bne_iff_ne.mpr c80
                obtain rfl := Option.some.inj H
                simp only [Option.some.injEq, Prod.mk.injEq] at H
                obtain ⟨rfl⟩ := H
                go_wp2
                go_ret
                exact ⟨by first | rfl | (simp [errW_none, errW_some] <;> rfl) | (simp [*, errW_none, errW_some] <;> rfl), by repeat (first | (with_reducible first | exact HB.out | apply below_alloc | apply pw_below_drewN | apply below_drew1 | refine below_set ?_ GE327.out | refine below_set ?_ GE328.out | refine below_set ?_ GE329.out | refine below_set ?_ GE330.out | refine below_set ?_ GE337.out | refine below_set ?_ GE343.out) | exact HB.out)⟩
            · replace c79 := Bool.eq_false_iff.mpr c79
              subst c79
              have H1 : ((charger_Step.f a0_0 a0_1 a0_2 a0_3 a0_4 a0_5 a0_6 a0_7 t332 t333 t334 t335 a3_0 a3_1 a3_2).bind fun bt350 => ((charger_Step.f a0_0 a0_1 a0_2 a0_3 a0_4 a0_5 a0_6 a0_7 t338 t339 t340 t341 a2_0 a2_1 a2_2).bind fun bt356 => (if true = true then (if bt350.2.2.2.2 = 0 then (if bt356.2.2.2.2 = 0 then (some (bt350.1 == bt356.1 && (bt350.2.1 == bt356.2.1 && (bt350.2.2.1 == bt356.2.2.1 && (bt350.2.2.2.1 == bt356.2.2.2.1))))) else (some false)) else (some false)) else (some false)))) = some r := by rw [if_neg (show ¬ (false = true) by decide)] at H; exact H
              clear H
              have H := H1
              clear H1
              replace H := Option.bind_eq_some_iff.mp H
              obtain ⟨⟨t350, t351, t352, t353, t354⟩, A1070, H⟩ := H
              replace H : ((charger_Step.f a0_0 a0_1 a0_2 a0_3 a0_4 a0_5 a0_6 a0_7 t338 t339 t340 t341 a2_0 a2_1 a2_2).bind fun bt356 => (if true = true then (if t354 = 0 then (if bt356.2.2.2.2 = 0 then (some (t350 == bt356.1 && (t351 == bt356.2.1 && (t352 == bt356.2.2.1 && (t353 == bt356.2.2.2.1))))) else (some false)) else (some false)) else (some false))) = some r := H
              have A107 := Aside0.mk A1070
              clear A1070
              replace H := Option.bind_eq_some_iff.mp H
              obtain ⟨⟨t356, t357, t358, t359, t360⟩, A1080, H⟩ := H
              replace H : (if true = true then (if t354 = 0 then (if t360 = 0 then (some (t350 == t356 && (t351 == t357 && (t352 == t358 && (t353 == t359))))) else (some false)) else (some false)) else (some false)) = some r := H
              have A108 := Aside0.mk A1080
              clear A1080
              by_cases c109 : (true = true)
              · clear c109
                have H1 : (if t354 = 0 then (if t360 = 0 then (some (t350 == t356 && (t351 == t357 && (t352 == t358 && (t353 == t359))))) else (some false)) else (some false)) = some r := by rw [if_pos rfl] at H; exact H
                clear H
                have H := H1
                clear H1
                by_cases c110 : t354 = 0
                · rw [if_pos c110] at H
                  have c110b0 : (t354 == 0) = true := beq_iff_eq.mpr c110
                  have c110b1 : (t354 != 0) = false := bne_eq_false_iff_eq.mpr c110
                  clear c110
                  by_cases c111 : t360 = 0
                  · rw [if_pos c111] at H
                    have c111b0 : (t360 == 0) = true := beq_iff_eq.mpr c111
                    have c111b1 : (t360 != 0) = false := bne_eq_false_iff_eq.mpr c111
                    clear c111
                    obtain rfl := Option.some.inj H
                    simp only [Option.some.injEq, Prod.mk.injEq] at H
                    obtain ⟨rfl⟩ := H
                    have hnb112 := NB327_328.out
                    have hnc112 := NB328_327.out
                    have hnb113 := NB327_329.out
                    have hnc113 := NB329_327.out
                    have hnb114 := NB327_330.out
                    have hnc114 := NB330_327.out
                    have hnb115 := NB327_337.out
                    have hnc115 := NB337_327.out
                    have hnb116 := NB327_343.out
                    have hnc116 := NB343_327.out
                    have hcz117_0 : wc.cell? ⟨gb327, 0, none⟩ = some (.string a0_0) := (blk_cell BK327.out 0).trans rfl
                    have hcz117_1 : wc.cell? ⟨gb327, 1, none⟩ = some (.int .i64 a0_1) := (blk_cell BK327.out 1).trans rfl
                    have hcz117_2 : wc.cell? ⟨gb327, 2, none⟩ = some (.int .i64 a0_2) := (blk_cell BK327.out 2).trans rfl
                    have hcz117_3 : wc.cell? ⟨gb327, 3, none⟩ = some (.int .i64 a0_3) := (blk_cell BK327.out 3).trans rfl
                    have hcz117_4 : wc.cell? ⟨gb327, 4, none⟩ = some (.int .i64 a0_4) := (blk_cell BK327.out 4).trans rfl
                    have hcz117_5 : wc.cell? ⟨gb327, 5, none⟩ = some (.int .i64 a0_5) := (blk_cell BK327.out 5).trans rfl
                    have hcz117_6 : wc.cell? ⟨gb327, 6, none⟩ = some (.int .i64 a0_6) := (blk_cell BK327.out 6).trans rfl
                    have hcz117_7 : wc.cell? ⟨gb327, 7, none⟩ = some (.int .i64 a0_7) := (blk_cell BK327.out 7).trans rfl
                    have hfz117_0 := blk_frozen BK327.out 0
                    have hfz117_1 := blk_frozen BK327.out 1
                    have hfz117_2 := blk_frozen BK327.out 2
                    have hfz117_3 := blk_frozen BK327.out 3
                    have hfz117_4 := blk_frozen BK327.out 4
                    have hfz117_5 := blk_frozen BK327.out 5
                    have hfz117_6 := blk_frozen BK327.out 6
                    have hfz117_7 := blk_frozen BK327.out 7
                    have hnb118 := NB337_328.out
                    have hnc118 := NB328_337.out
                    have hnb119 := NB337_329.out
                    have hnc119 := NB329_337.out
                    have hnb120 := NB337_330.out
                    have hnc120 := NB330_337.out
                    have hnb121 := NB337_343.out
                    have hnc121 := NB343_337.out
                    have hcz122_0 : wc.cell? ⟨gb337, 0, none⟩ = some (.int .i64 t332) := (blk_cell BK337.out 0).trans rfl
                    have hcz122_1 : wc.cell? ⟨gb337, 1, none⟩ = some (.int .i64 t333) := (blk_cell BK337.out 1).trans rfl
                    have hcz122_2 : wc.cell? ⟨gb337, 2, none⟩ = some (.int .i64 t334) := (blk_cell BK337.out 2).trans rfl
                    have hcz122_3 : wc.cell? ⟨gb337, 3, none⟩ = some (.bool t335) := (blk_cell BK337.out 3).trans rfl
                    have hfz122_0 := blk_frozen BK337.out 0
                    have hfz122_1 := blk_frozen BK337.out 1
                    have hfz122_2 := blk_frozen BK337.out 2
                    have hfz122_3 := blk_frozen BK337.out 3
                    have hnb123 := NB330_328.out
                    have hnc123 := NB328_330.out
                    have hnb124 := NB330_329.out
                    have hnc124 := NB329_330.out
                    have hnb125 := NB330_343.out
                    have hnc125 := NB343_330.out
                    have hcz126_0 : wc.cell? ⟨gb330, 0, none⟩ = some (.int .i64 a3_0) := (blk_cell BK330.out 0).trans rfl
                    have hcz126_1 : wc.cell? ⟨gb330, 1, none⟩ = some (.int .i64 a3_1) := (blk_cell BK330.out 1).trans rfl
                    have hcz126_2 : wc.cell? ⟨gb330, 2, none⟩ = some (.int .i64 a3_2) := (blk_cell BK330.out 2).trans rfl
                    have hfz126_0 := blk_frozen BK330.out 0
                    have hfz126_1 := blk_frozen BK330.out 1
                    have hfz126_2 := blk_frozen BK330.out 2
                    go_wp2_with (first | ((with_reducible refine gate_callee (f := 11) rfl ?_); refine goesL_ (some 88) rfl rfl Tryd.func11 (by kernel_rfl) rfl #[.agg #[.string a0_0, .int .i64 a0_1, .int .i64 a0_2, .int .i64 a0_3, .int .i64 a0_4, .int .i64 a0_5, .int .i64 a0_6, .int .i64 a0_7], .agg #[.int .i64 t332, .int .i64 t333, .int .i64 t334, .bool t335], .agg #[.int .i64 a3_0, .int .i64 a3_1, .int .i64 a3_2]] rfl (by (try simp only [List.map_toArray, List.map_cons, List.map_nil]); first | done | rfl | (simp only [List.length_drop, List.length_take]; rfl)) ?_; (with_reducible refine (charger_Step.calls a0_0 a0_1 a0_2 a0_3 a0_4 a0_5 a0_6 a0_7 t332 t333 t334 t335 a3_0 a3_1 a3_2 t350 t351 t352 t353 t354 _ (hG.below (by repeat (first | (with_reducible first | exact HB.out | apply below_alloc | apply pw_below_drewN | apply below_drew1) | exact HB.out | (refine Below.setCell ?_ (Aside0.out (by assumption)) _)))) A107.out).mono ?_); rintro e w127 ⟨rfl, hb⟩; refine ⟨_, rfl, ?_⟩; have n0_ := Aside0.mk (blk_below (g := gb327) (o := .cells #[.string a0_0, .int .i64 a0_1, .int .i64 a0_2, .int .i64 a0_3, .int .i64 a0_4, .int .i64 a0_5, .int .i64 a0_6, .int .i64 a0_7] 23 (0, 0)) (by (with_reducible repeat (first | refine blk_drewN ?_ _ | refine blk_drew ?_ | refine blk_alloc ?_ _)); exact BK327.out) hb); have n1_ := Aside0.mk (blk_below (g := gb328) (o := .cells #[.int .i64 a1_0, .int .i64 a1_1, .int .i64 a1_2, .bool a1_3] 25 (0, 0)) (by (with_reducible repeat (first | refine blk_drewN ?_ _ | refine blk_drew ?_ | refine blk_alloc ?_ _)); exact BK328.out) hb); have n2_ := Aside0.mk (blk_below (g := gb329) (o := .cells #[.int .i64 a2_0, .int .i64 a2_1, .int .i64 a2_2] 27 (0, 0)) (by (with_reducible repeat (first | refine blk_drewN ?_ _ | refine blk_drew ?_ | refine blk_alloc ?_ _)); exact BK329.out) hb); have n3_ := Aside0.mk (blk_below (g := gb330) (o := .cells #[.int .i64 a3_0, .int .i64 a3_1, .int .i64 a3_2] 27 (0, 0)) (by (with_reducible repeat (first | refine blk_drewN ?_ _ | refine blk_drew ?_ | refine blk_alloc ?_ _)); exact BK330.out) hb); have n4_ := Aside0.mk (blk_below (g := gb337) (o := .cells #[.int .i64 t332, .int .i64 t333, .int .i64 t334, .bool t335] 25 (0, 0)) (by (with_reducible repeat (first | refine blk_drewN ?_ _ | refine blk_drew ?_ | refine blk_alloc ?_ _)); exact BK337.out) hb); have n5_ := Aside0.mk (blk_below (g := gb343) (o := .cells #[.int .i64 t338, .int .i64 t339, .int .i64 t340, .bool t341] 25 (0, 0)) (by (with_reducible repeat (first | refine blk_drewN ?_ _ | refine blk_drew ?_ | refine blk_alloc ?_ _)); exact BK343.out) hb); have n6_ := Aside0.mk (below_step (by repeat (first | (with_reducible first | exact HB.out | apply below_alloc | apply pw_below_drewN | apply below_drew1 | refine below_set ?_ GE327.out | refine below_set ?_ GE328.out | refine below_set ?_ GE329.out | refine below_set ?_ GE330.out | refine below_set ?_ GE337.out | refine below_set ?_ GE343.out) | exact HB.out)) hb); clear BK327; clear BK328; clear BK329; clear BK330; clear BK337; clear BK343; clear HB; have BK327 := n0_; have BK328 := n1_; have BK329 := n2_; have BK330 := n3_; have BK337 := n4_; have BK343 := n5_; have HB := n6_; clear n0_ n1_ n2_ n3_ n4_ n5_ n6_; (try clear hb); (try clear hb2); (try clear hk); (try clear hi)) | ((with_reducible refine gate_dst (N := 17) rfl ?_); refine box_event ?hg (N := 17) ?hd (cs := #[.int .i64 0, .int .i64 0, .int .i64 0, .bool false]) (t := 25) ?hr ?_; (case hd => rfl); (case hg => rfl); (case hr => first | (go_simp; done) | (go_simp; rfl)); intro gb355 hg w128 hbox hb; have n0_ := Aside0.mk (blk_below (g := gb327) (o := .cells #[.string a0_0, .int .i64 a0_1, .int .i64 a0_2, .int .i64 a0_3, .int .i64 a0_4, .int .i64 a0_5, .int .i64 a0_6, .int .i64 a0_7] 23 (0, 0)) (by (with_reducible repeat (first | refine blk_drewN ?_ _ | refine blk_drew ?_ | refine blk_alloc ?_ _)); exact BK327.out) hb); have n1_ := Aside0.mk (blk_below (g := gb328) (o := .cells #[.int .i64 a1_0, .int .i64 a1_1, .int .i64 a1_2, .bool a1_3] 25 (0, 0)) (by (with_reducible repeat (first | refine blk_drewN ?_ _ | refine blk_drew ?_ | refine blk_alloc ?_ _)); exact BK328.out) hb); have n2_ := Aside0.mk (blk_below (g := gb329) (o := .cells #[.int .i64 a2_0, .int .i64 a2_1, .int .i64 a2_2] 27 (0, 0)) (by (with_reducible repeat (first | refine blk_drewN ?_ _ | refine blk_drew ?_ | refine blk_alloc ?_ _)); exact BK329.out) hb); have n3_ := Aside0.mk (blk_below (g := gb330) (o := .cells #[.int .i64 a3_0, .int .i64 a3_1, .int .i64 a3_2] 27 (0, 0)) (by (with_reducible repeat (first | refine blk_drewN ?_ _ | refine blk_drew ?_ | refine blk_alloc ?_ _)); exact BK330.out) hb); have n4_ := Aside0.mk (blk_below (g := gb337) (o := .cells #[.int .i64 t332, .int .i64 t333, .int .i64 t334, .bool t335] 25 (0, 0)) (by (with_reducible repeat (first | refine blk_drewN ?_ _ | refine blk_drew ?_ | refine blk_alloc ?_ _)); exact BK337.out) hb); have n5_ := Aside0.mk (blk_below (g := gb343) (o := .cells #[.int .i64 t338, .int .i64 t339, .int .i64 t340, .bool t341] 25 (0, 0)) (by (with_reducible repeat (first | refine blk_drewN ?_ _ | refine blk_drew ?_ | refine blk_alloc ?_ _)); exact BK343.out) hb); have n6_ := Aside0.mk (below_step (by repeat (first | (with_reducible first | exact HB.out | apply below_alloc | apply pw_below_drewN | apply below_drew1 | refine below_set ?_ GE327.out | refine below_set ?_ GE328.out | refine below_set ?_ GE329.out | refine below_set ?_ GE330.out | refine below_set ?_ GE337.out | refine below_set ?_ GE343.out) | exact HB.out)) hb); have n7_ := Aside0.mk (hbox); have n8_ := Aside0.mk ((by rw [hg]; exact (below_size (by repeat (first | (with_reducible first | exact HB.out | apply below_alloc | apply pw_below_drewN | apply below_drew1 | refine below_set ?_ GE327.out | refine below_set ?_ GE328.out | refine below_set ?_ GE329.out | refine below_set ?_ GE330.out | refine below_set ?_ GE337.out | refine below_set ?_ GE343.out) | exact HB.out))) : w.heap.size ≤ gb355)); have n9_ := Aside0.mk ((by rw [hg]; exact (below_size (by repeat (first | (with_reducible first | exact HB.out | apply below_alloc | apply pw_below_drewN | apply below_drew1 | refine below_set ?_ GE327.out | refine below_set ?_ GE328.out | refine below_set ?_ GE329.out | refine below_set ?_ GE330.out | refine below_set ?_ GE337.out | refine below_set ?_ GE343.out) | exact HB.out))) : w.heap.size ≤ gb355)); have n10_ := Aside0.mk ((by rw [hg]; exact Nat.ne_of_lt (blk_lt (g := gb327) (o := .cells #[.string a0_0, .int .i64 a0_1, .int .i64 a0_2, .int .i64 a0_3, .int .i64 a0_4, .int .i64 a0_5, .int .i64 a0_6, .int .i64 a0_7] 23 (0, 0)) (by (with_reducible repeat (first | refine blk_drewN ?_ _ | refine blk_drew ?_ | refine blk_alloc ?_ _)); exact BK327.out)) : gb327 ≠ gb355)); have n11_ := Aside0.mk ((by rw [hg]; exact Nat.ne_of_gt (blk_lt (g := gb327) (o := .cells #[.string a0_0, .int .i64 a0_1, .int .i64 a0_2, .int .i64 a0_3, .int .i64 a0_4, .int .i64 a0_5, .int .i64 a0_6, .int .i64 a0_7] 23 (0, 0)) (by (with_reducible repeat (first | refine blk_drewN ?_ _ | refine blk_drew ?_ | refine blk_alloc ?_ _)); exact BK327.out)) : gb355 ≠ gb327)); have n12_ := Aside0.mk ((by rw [hg]; exact Nat.ne_of_lt (blk_lt (g := gb328) (o := .cells #[.int .i64 a1_0, .int .i64 a1_1, .int .i64 a1_2, .bool a1_3] 25 (0, 0)) (by (with_reducible repeat (first | refine blk_drewN ?_ _ | refine blk_drew ?_ | refine blk_alloc ?_ _)); exact BK328.out)) : gb328 ≠ gb355)); have n13_ := Aside0.mk ((by rw [hg]; exact Nat.ne_of_gt (blk_lt (g := gb328) (o := .cells #[.int .i64 a1_0, .int .i64 a1_1, .int .i64 a1_2, .bool a1_3] 25 (0, 0)) (by (with_reducible repeat (first | refine blk_drewN ?_ _ | refine blk_drew ?_ | refine blk_alloc ?_ _)); exact BK328.out)) : gb355 ≠ gb328)); have n14_ := Aside0.mk ((by rw [hg]; exact Nat.ne_of_lt (blk_lt (g := gb329) (o := .cells #[.int .i64 a2_0, .int .i64 a2_1, .int .i64 a2_2] 27 (0, 0)) (by (with_reducible repeat (first | refine blk_drewN ?_ _ | refine blk_drew ?_ | refine blk_alloc ?_ _)); exact BK329.out)) : gb329 ≠ gb355)); have n15_ := Aside0.mk ((by rw [hg]; exact Nat.ne_of_gt (blk_lt (g := gb329) (o := .cells #[.int .i64 a2_0, .int .i64 a2_1, .int .i64 a2_2] 27 (0, 0)) (by (with_reducible repeat (first | refine blk_drewN ?_ _ | refine blk_drew ?_ | refine blk_alloc ?_ _)); exact BK329.out)) : gb355 ≠ gb329)); have n16_ := Aside0.mk ((by rw [hg]; exact Nat.ne_of_lt (blk_lt (g := gb330) (o := .cells #[.int .i64 a3_0, .int .i64 a3_1, .int .i64 a3_2] 27 (0, 0)) (by (with_reducible repeat (first | refine blk_drewN ?_ _ | refine blk_drew ?_ | refine blk_alloc ?_ _)); exact BK330.out)) : gb330 ≠ gb355)); have n17_ := Aside0.mk ((by rw [hg]; exact Nat.ne_of_gt (blk_lt (g := gb330) (o := .cells #[.int .i64 a3_0, .int .i64 a3_1, .int .i64 a3_2] 27 (0, 0)) (by (with_reducible repeat (first | refine blk_drewN ?_ _ | refine blk_drew ?_ | refine blk_alloc ?_ _)); exact BK330.out)) : gb355 ≠ gb330)); have n18_ := Aside0.mk ((by rw [hg]; exact Nat.ne_of_lt (blk_lt (g := gb337) (o := .cells #[.int .i64 t332, .int .i64 t333, .int .i64 t334, .bool t335] 25 (0, 0)) (by (with_reducible repeat (first | refine blk_drewN ?_ _ | refine blk_drew ?_ | refine blk_alloc ?_ _)); exact BK337.out)) : gb337 ≠ gb355)); have n19_ := Aside0.mk ((by rw [hg]; exact Nat.ne_of_gt (blk_lt (g := gb337) (o := .cells #[.int .i64 t332, .int .i64 t333, .int .i64 t334, .bool t335] 25 (0, 0)) (by (with_reducible repeat (first | refine blk_drewN ?_ _ | refine blk_drew ?_ | refine blk_alloc ?_ _)); exact BK337.out)) : gb355 ≠ gb337)); have n20_ := Aside0.mk ((by rw [hg]; exact Nat.ne_of_lt (blk_lt (g := gb343) (o := .cells #[.int .i64 t338, .int .i64 t339, .int .i64 t340, .bool t341] 25 (0, 0)) (by (with_reducible repeat (first | refine blk_drewN ?_ _ | refine blk_drew ?_ | refine blk_alloc ?_ _)); exact BK343.out)) : gb343 ≠ gb355)); have n21_ := Aside0.mk ((by rw [hg]; exact Nat.ne_of_gt (blk_lt (g := gb343) (o := .cells #[.int .i64 t338, .int .i64 t339, .int .i64 t340, .bool t341] 25 (0, 0)) (by (with_reducible repeat (first | refine blk_drewN ?_ _ | refine blk_drew ?_ | refine blk_alloc ?_ _)); exact BK343.out)) : gb355 ≠ gb343)); clear BK327; clear BK328; clear BK329; clear BK330; clear BK337; clear BK343; clear HB; have BK327 := n0_; have BK328 := n1_; have BK329 := n2_; have BK330 := n3_; have BK337 := n4_; have BK343 := n5_; have HB := n6_; have BK355 := n7_; have GW355 := n8_; have GE355 := n9_; have NB327_355 := n10_; have NB355_327 := n11_; have NB328_355 := n12_; have NB355_328 := n13_; have NB329_355 := n14_; have NB355_329 := n15_; have NB330_355 := n16_; have NB355_330 := n17_; have NB337_355 := n18_; have NB355_337 := n19_; have NB343_355 := n20_; have NB355_343 := n21_; clear n0_ n1_ n2_ n3_ n4_ n5_ n6_ n7_ n8_ n9_ n10_ n11_ n12_ n13_ n14_ n15_ n16_ n17_ n18_ n19_ n20_ n21_; clear hb hbox hg; have hnb129 := NB355_327.out; have hnc129 := NB327_355.out; have hnb130 := NB355_328.out; have hnc130 := NB328_355.out; have hnb131 := NB355_329.out; have hnc131 := NB329_355.out; have hnb132 := NB355_330.out; have hnc132 := NB330_355.out; have hnb133 := NB355_337.out; have hnc133 := NB337_355.out; have hnb134 := NB355_343.out; have hnc134 := NB343_355.out; have hcz135_0 : w128.cell? ⟨gb355, 0, none⟩ = some (.int .i64 0) := (blk_cell BK355.out 0).trans rfl; have hcz135_1 : w128.cell? ⟨gb355, 1, none⟩ = some (.int .i64 0) := (blk_cell BK355.out 1).trans rfl; have hcz135_2 : w128.cell? ⟨gb355, 2, none⟩ = some (.int .i64 0) := (blk_cell BK355.out 2).trans rfl; have hcz135_3 : w128.cell? ⟨gb355, 3, none⟩ = some (.bool false) := (blk_cell BK355.out 3).trans rfl; have hfz135_0 := blk_frozen BK355.out 0; have hfz135_1 := blk_frozen BK355.out 1; have hfz135_2 := blk_frozen BK355.out 2; have hfz135_3 := blk_frozen BK355.out 3; have hcz136_0 : w128.cell? ⟨gb327, 0, none⟩ = some (.string a0_0) := (blk_cell BK327.out 0).trans rfl; have hcz136_1 : w128.cell? ⟨gb327, 1, none⟩ = some (.int .i64 a0_1) := (blk_cell BK327.out 1).trans rfl; have hcz136_2 : w128.cell? ⟨gb327, 2, none⟩ = some (.int .i64 a0_2) := (blk_cell BK327.out 2).trans rfl; have hcz136_3 : w128.cell? ⟨gb327, 3, none⟩ = some (.int .i64 a0_3) := (blk_cell BK327.out 3).trans rfl; have hcz136_4 : w128.cell? ⟨gb327, 4, none⟩ = some (.int .i64 a0_4) := (blk_cell BK327.out 4).trans rfl; have hcz136_5 : w128.cell? ⟨gb327, 5, none⟩ = some (.int .i64 a0_5) := (blk_cell BK327.out 5).trans rfl; have hcz136_6 : w128.cell? ⟨gb327, 6, none⟩ = some (.int .i64 a0_6) := (blk_cell BK327.out 6).trans rfl; have hcz136_7 : w128.cell? ⟨gb327, 7, none⟩ = some (.int .i64 a0_7) := (blk_cell BK327.out 7).trans rfl; have hfz136_0 := blk_frozen BK327.out 0; have hfz136_1 := blk_frozen BK327.out 1; have hfz136_2 := blk_frozen BK327.out 2; have hfz136_3 := blk_frozen BK327.out 3; have hfz136_4 := blk_frozen BK327.out 4; have hfz136_5 := blk_frozen BK327.out 5; have hfz136_6 := blk_frozen BK327.out 6; have hfz136_7 := blk_frozen BK327.out 7; have hnb137 := NB343_328.out; have hnc137 := NB328_343.out; have hnb138 := NB343_329.out; have hnc138 := NB329_343.out; have hcz139_0 : w128.cell? ⟨gb343, 0, none⟩ = some (.int .i64 t338) := (blk_cell BK343.out 0).trans rfl; have hcz139_1 : w128.cell? ⟨gb343, 1, none⟩ = some (.int .i64 t339) := (blk_cell BK343.out 1).trans rfl; have hcz139_2 : w128.cell? ⟨gb343, 2, none⟩ = some (.int .i64 t340) := (blk_cell BK343.out 2).trans rfl; have hcz139_3 : w128.cell? ⟨gb343, 3, none⟩ = some (.bool t341) := (blk_cell BK343.out 3).trans rfl; have hfz139_0 := blk_frozen BK343.out 0; have hfz139_1 := blk_frozen BK343.out 1; have hfz139_2 := blk_frozen BK343.out 2; have hfz139_3 := blk_frozen BK343.out 3; have hnb140 := NB329_328.out; have hnc140 := NB328_329.out; have hcz141_0 : w128.cell? ⟨gb329, 0, none⟩ = some (.int .i64 a2_0) := (blk_cell BK329.out 0).trans rfl; have hcz141_1 : w128.cell? ⟨gb329, 1, none⟩ = some (.int .i64 a2_1) := (blk_cell BK329.out 1).trans rfl; have hcz141_2 : w128.cell? ⟨gb329, 2, none⟩ = some (.int .i64 a2_2) := (blk_cell BK329.out 2).trans rfl; have hfz141_0 := blk_frozen BK329.out 0; have hfz141_1 := blk_frozen BK329.out 1; have hfz141_2 := blk_frozen BK329.out 2) | ((with_reducible refine gate_callee (f := 11) rfl ?_); refine goesL_ (some 95) rfl rfl Tryd.func11 (by kernel_rfl) rfl #[.agg #[.string a0_0, .int .i64 a0_1, .int .i64 a0_2, .int .i64 a0_3, .int .i64 a0_4, .int .i64 a0_5, .int .i64 a0_6, .int .i64 a0_7], .agg #[.int .i64 t338, .int .i64 t339, .int .i64 t340, .bool t341], .agg #[.int .i64 a2_0, .int .i64 a2_1, .int .i64 a2_2]] rfl (by (try simp only [List.map_toArray, List.map_cons, List.map_nil]); first | done | rfl | (simp only [List.length_drop, List.length_take]; rfl)) ?_; (with_reducible refine (charger_Step.calls a0_0 a0_1 a0_2 a0_3 a0_4 a0_5 a0_6 a0_7 t338 t339 t340 t341 a2_0 a2_1 a2_2 t356 t357 t358 t359 t360 _ (hG.below (by repeat (first | (with_reducible first | exact HB.out | apply below_alloc | apply pw_below_drewN | apply below_drew1) | exact HB.out | (refine Below.setCell ?_ (Aside0.out (by assumption)) _)))) A108.out).mono ?_); rintro e w142 ⟨rfl, hb⟩; refine ⟨_, rfl, ?_⟩; have n0_ := Aside0.mk (blk_below (g := gb327) (o := .cells #[.string a0_0, .int .i64 a0_1, .int .i64 a0_2, .int .i64 a0_3, .int .i64 a0_4, .int .i64 a0_5, .int .i64 a0_6, .int .i64 a0_7] 23 (0, 0)) (by (with_reducible repeat (first | refine blk_drewN ?_ _ | refine blk_drew ?_ | refine blk_alloc ?_ _)); refine blk_far ?_ NB327_355.out _; (with_reducible repeat (first | refine blk_drewN ?_ _ | refine blk_drew ?_ | refine blk_alloc ?_ _)); refine blk_far ?_ NB327_355.out _; (with_reducible repeat (first | refine blk_drewN ?_ _ | refine blk_drew ?_ | refine blk_alloc ?_ _)); refine blk_far ?_ NB327_355.out _; (with_reducible repeat (first | refine blk_drewN ?_ _ | refine blk_drew ?_ | refine blk_alloc ?_ _)); refine blk_far ?_ NB327_355.out _; (with_reducible repeat (first | refine blk_drewN ?_ _ | refine blk_drew ?_ | refine blk_alloc ?_ _)); exact BK327.out) hb); have n1_ := Aside0.mk (blk_below (g := gb328) (o := .cells #[.int .i64 a1_0, .int .i64 a1_1, .int .i64 a1_2, .bool a1_3] 25 (0, 0)) (by (with_reducible repeat (first | refine blk_drewN ?_ _ | refine blk_drew ?_ | refine blk_alloc ?_ _)); refine blk_far ?_ NB328_355.out _; (with_reducible repeat (first | refine blk_drewN ?_ _ | refine blk_drew ?_ | refine blk_alloc ?_ _)); refine blk_far ?_ NB328_355.out _; (with_reducible repeat (first | refine blk_drewN ?_ _ | refine blk_drew ?_ | refine blk_alloc ?_ _)); refine blk_far ?_ NB328_355.out _; (with_reducible repeat (first | refine blk_drewN ?_ _ | refine blk_drew ?_ | refine blk_alloc ?_ _)); refine blk_far ?_ NB328_355.out _; (with_reducible repeat (first | refine blk_drewN ?_ _ | refine blk_drew ?_ | refine blk_alloc ?_ _)); exact BK328.out) hb); have n2_ := Aside0.mk (blk_below (g := gb329) (o := .cells #[.int .i64 a2_0, .int .i64 a2_1, .int .i64 a2_2] 27 (0, 0)) (by (with_reducible repeat (first | refine blk_drewN ?_ _ | refine blk_drew ?_ | refine blk_alloc ?_ _)); refine blk_far ?_ NB329_355.out _; (with_reducible repeat (first | refine blk_drewN ?_ _ | refine blk_drew ?_ | refine blk_alloc ?_ _)); refine blk_far ?_ NB329_355.out _; (with_reducible repeat (first | refine blk_drewN ?_ _ | refine blk_drew ?_ | refine blk_alloc ?_ _)); refine blk_far ?_ NB329_355.out _; (with_reducible repeat (first | refine blk_drewN ?_ _ | refine blk_drew ?_ | refine blk_alloc ?_ _)); refine blk_far ?_ NB329_355.out _; (with_reducible repeat (first | refine blk_drewN ?_ _ | refine blk_drew ?_ | refine blk_alloc ?_ _)); exact BK329.out) hb); have n3_ := Aside0.mk (blk_below (g := gb330) (o := .cells #[.int .i64 a3_0, .int .i64 a3_1, .int .i64 a3_2] 27 (0, 0)) (by (with_reducible repeat (first | refine blk_drewN ?_ _ | refine blk_drew ?_ | refine blk_alloc ?_ _)); refine blk_far ?_ NB330_355.out _; (with_reducible repeat (first | refine blk_drewN ?_ _ | refine blk_drew ?_ | refine blk_alloc ?_ _)); refine blk_far ?_ NB330_355.out _; (with_reducible repeat (first | refine blk_drewN ?_ _ | refine blk_drew ?_ | refine blk_alloc ?_ _)); refine blk_far ?_ NB330_355.out _; (with_reducible repeat (first | refine blk_drewN ?_ _ | refine blk_drew ?_ | refine blk_alloc ?_ _)); refine blk_far ?_ NB330_355.out _; (with_reducible repeat (first | refine blk_drewN ?_ _ | refine blk_drew ?_ | refine blk_alloc ?_ _)); exact BK330.out) hb); have n4_ := Aside0.mk (blk_below (g := gb337) (o := .cells #[.int .i64 t332, .int .i64 t333, .int .i64 t334, .bool t335] 25 (0, 0)) (by (with_reducible repeat (first | refine blk_drewN ?_ _ | refine blk_drew ?_ | refine blk_alloc ?_ _)); refine blk_far ?_ NB337_355.out _; (with_reducible repeat (first | refine blk_drewN ?_ _ | refine blk_drew ?_ | refine blk_alloc ?_ _)); refine blk_far ?_ NB337_355.out _; (with_reducible repeat (first | refine blk_drewN ?_ _ | refine blk_drew ?_ | refine blk_alloc ?_ _)); refine blk_far ?_ NB337_355.out _; (with_reducible repeat (first | refine blk_drewN ?_ _ | refine blk_drew ?_ | refine blk_alloc ?_ _)); refine blk_far ?_ NB337_355.out _; (with_reducible repeat (first | refine blk_drewN ?_ _ | refine blk_drew ?_ | refine blk_alloc ?_ _)); exact BK337.out) hb); have n5_ := Aside0.mk (blk_below (g := gb343) (o := .cells #[.int .i64 t338, .int .i64 t339, .int .i64 t340, .bool t341] 25 (0, 0)) (by (with_reducible repeat (first | refine blk_drewN ?_ _ | refine blk_drew ?_ | refine blk_alloc ?_ _)); refine blk_far ?_ NB343_355.out _; (with_reducible repeat (first | refine blk_drewN ?_ _ | refine blk_drew ?_ | refine blk_alloc ?_ _)); refine blk_far ?_ NB343_355.out _; (with_reducible repeat (first | refine blk_drewN ?_ _ | refine blk_drew ?_ | refine blk_alloc ?_ _)); refine blk_far ?_ NB343_355.out _; (with_reducible repeat (first | refine blk_drewN ?_ _ | refine blk_drew ?_ | refine blk_alloc ?_ _)); refine blk_far ?_ NB343_355.out _; (with_reducible repeat (first | refine blk_drewN ?_ _ | refine blk_drew ?_ | refine blk_alloc ?_ _)); exact BK343.out) hb); have n6_ := Aside0.mk (blk_below (g := gb355) (o := .cells #[.int .i64 t350, .int .i64 t351, .int .i64 t352, .bool t353] 25 (0, 0)) (by (with_reducible repeat (first | refine blk_drewN ?_ _ | refine blk_drew ?_ | refine blk_alloc ?_ _)); refine blk_put (cs := #[.int .i64 t350, .int .i64 t351, .int .i64 t352, .bool false]) ?_ 3 _ rfl; (with_reducible repeat (first | refine blk_drewN ?_ _ | refine blk_drew ?_ | refine blk_alloc ?_ _)); refine blk_put (cs := #[.int .i64 t350, .int .i64 t351, .int .i64 0, .bool false]) ?_ 2 _ rfl; (with_reducible repeat (first | refine blk_drewN ?_ _ | refine blk_drew ?_ | refine blk_alloc ?_ _)); refine blk_put (cs := #[.int .i64 t350, .int .i64 0, .int .i64 0, .bool false]) ?_ 1 _ rfl; (with_reducible repeat (first | refine blk_drewN ?_ _ | refine blk_drew ?_ | refine blk_alloc ?_ _)); refine blk_put (cs := #[.int .i64 0, .int .i64 0, .int .i64 0, .bool false]) ?_ 0 _ rfl; (with_reducible repeat (first | refine blk_drewN ?_ _ | refine blk_drew ?_ | refine blk_alloc ?_ _)); exact BK355.out) hb); have n7_ := Aside0.mk (below_step (by repeat (first | (with_reducible first | exact HB.out | apply below_alloc | apply pw_below_drewN | apply below_drew1 | refine below_set ?_ GE327.out | refine below_set ?_ GE328.out | refine below_set ?_ GE329.out | refine below_set ?_ GE330.out | refine below_set ?_ GE337.out | refine below_set ?_ GE343.out | refine below_set ?_ GE355.out) | exact HB.out)) hb); clear BK327; clear BK328; clear BK329; clear BK330; clear BK337; clear BK343; clear BK355; clear HB; have BK327 := n0_; have BK328 := n1_; have BK329 := n2_; have BK330 := n3_; have BK337 := n4_; have BK343 := n5_; have BK355 := n6_; have HB := n7_; clear n0_ n1_ n2_ n3_ n4_ n5_ n6_ n7_; (try clear hb); (try clear hb2); (try clear hk); (try clear hi)) | ((with_reducible refine gate_dst (N := 19) rfl ?_); refine box_event ?hg (N := 19) ?hd (cs := #[.int .i64 0, .int .i64 0, .int .i64 0, .bool false]) (t := 25) ?hr ?_; (case hd => rfl); (case hg => rfl); (case hr => first | (go_simp; done) | (go_simp; rfl)); intro gb361 hg w143 hbox hb; have n0_ := Aside0.mk (blk_below (g := gb327) (o := .cells #[.string a0_0, .int .i64 a0_1, .int .i64 a0_2, .int .i64 a0_3, .int .i64 a0_4, .int .i64 a0_5, .int .i64 a0_6, .int .i64 a0_7] 23 (0, 0)) (by (with_reducible repeat (first | refine blk_drewN ?_ _ | refine blk_drew ?_ | refine blk_alloc ?_ _)); exact BK327.out) hb); have n1_ := Aside0.mk (blk_below (g := gb328) (o := .cells #[.int .i64 a1_0, .int .i64 a1_1, .int .i64 a1_2, .bool a1_3] 25 (0, 0)) (by (with_reducible repeat (first | refine blk_drewN ?_ _ | refine blk_drew ?_ | refine blk_alloc ?_ _)); exact BK328.out) hb); have n2_ := Aside0.mk (blk_below (g := gb329) (o := .cells #[.int .i64 a2_0, .int .i64 a2_1, .int .i64 a2_2] 27 (0, 0)) (by (with_reducible repeat (first | refine blk_drewN ?_ _ | refine blk_drew ?_ | refine blk_alloc ?_ _)); exact BK329.out) hb); have n3_ := Aside0.mk (blk_below (g := gb330) (o := .cells #[.int .i64 a3_0, .int .i64 a3_1, .int .i64 a3_2] 27 (0, 0)) (by (with_reducible repeat (first | refine blk_drewN ?_ _ | refine blk_drew ?_ | refine blk_alloc ?_ _)); exact BK330.out) hb); have n4_ := Aside0.mk (blk_below (g := gb337) (o := .cells #[.int .i64 t332, .int .i64 t333, .int .i64 t334, .bool t335] 25 (0, 0)) (by (with_reducible repeat (first | refine blk_drewN ?_ _ | refine blk_drew ?_ | refine blk_alloc ?_ _)); exact BK337.out) hb); have n5_ := Aside0.mk (blk_below (g := gb343) (o := .cells #[.int .i64 t338, .int .i64 t339, .int .i64 t340, .bool t341] 25 (0, 0)) (by (with_reducible repeat (first | refine blk_drewN ?_ _ | refine blk_drew ?_ | refine blk_alloc ?_ _)); exact BK343.out) hb); have n6_ := Aside0.mk (blk_below (g := gb355) (o := .cells #[.int .i64 t350, .int .i64 t351, .int .i64 t352, .bool t353] 25 (0, 0)) (by (with_reducible repeat (first | refine blk_drewN ?_ _ | refine blk_drew ?_ | refine blk_alloc ?_ _)); exact BK355.out) hb); have n7_ := Aside0.mk (below_step (by repeat (first | (with_reducible first | exact HB.out | apply below_alloc | apply pw_below_drewN | apply below_drew1 | refine below_set ?_ GE327.out | refine below_set ?_ GE328.out | refine below_set ?_ GE329.out | refine below_set ?_ GE330.out | refine below_set ?_ GE337.out | refine below_set ?_ GE343.out | refine below_set ?_ GE355.out) | exact HB.out)) hb); have n8_ := Aside0.mk (hbox); have n9_ := Aside0.mk ((by rw [hg]; exact (below_size (by repeat (first | (with_reducible first | exact HB.out | apply below_alloc | apply pw_below_drewN | apply below_drew1 | refine below_set ?_ GE327.out | refine below_set ?_ GE328.out | refine below_set ?_ GE329.out | refine below_set ?_ GE330.out | refine below_set ?_ GE337.out | refine below_set ?_ GE343.out | refine below_set ?_ GE355.out) | exact HB.out))) : w.heap.size ≤ gb361)); have n10_ := Aside0.mk ((by rw [hg]; exact (below_size (by repeat (first | (with_reducible first | exact HB.out | apply below_alloc | apply pw_below_drewN | apply below_drew1 | refine below_set ?_ GE327.out | refine below_set ?_ GE328.out | refine below_set ?_ GE329.out | refine below_set ?_ GE330.out | refine below_set ?_ GE337.out | refine below_set ?_ GE343.out | refine below_set ?_ GE355.out) | exact HB.out))) : w.heap.size ≤ gb361)); have n11_ := Aside0.mk ((by rw [hg]; exact Nat.ne_of_lt (blk_lt (g := gb327) (o := .cells #[.string a0_0, .int .i64 a0_1, .int .i64 a0_2, .int .i64 a0_3, .int .i64 a0_4, .int .i64 a0_5, .int .i64 a0_6, .int .i64 a0_7] 23 (0, 0)) (by (with_reducible repeat (first | refine blk_drewN ?_ _ | refine blk_drew ?_ | refine blk_alloc ?_ _)); exact BK327.out)) : gb327 ≠ gb361)); have n12_ := Aside0.mk ((by rw [hg]; exact Nat.ne_of_gt (blk_lt (g := gb327) (o := .cells #[.string a0_0, .int .i64 a0_1, .int .i64 a0_2, .int .i64 a0_3, .int .i64 a0_4, .int .i64 a0_5, .int .i64 a0_6, .int .i64 a0_7] 23 (0, 0)) (by (with_reducible repeat (first | refine blk_drewN ?_ _ | refine blk_drew ?_ | refine blk_alloc ?_ _)); exact BK327.out)) : gb361 ≠ gb327)); have n13_ := Aside0.mk ((by rw [hg]; exact Nat.ne_of_lt (blk_lt (g := gb328) (o := .cells #[.int .i64 a1_0, .int .i64 a1_1, .int .i64 a1_2, .bool a1_3] 25 (0, 0)) (by (with_reducible repeat (first | refine blk_drewN ?_ _ | refine blk_drew ?_ | refine blk_alloc ?_ _)); exact BK328.out)) : gb328 ≠ gb361)); have n14_ := Aside0.mk ((by rw [hg]; exact Nat.ne_of_gt (blk_lt (g := gb328) (o := .cells #[.int .i64 a1_0, .int .i64 a1_1, .int .i64 a1_2, .bool a1_3] 25 (0, 0)) (by (with_reducible repeat (first | refine blk_drewN ?_ _ | refine blk_drew ?_ | refine blk_alloc ?_ _)); exact BK328.out)) : gb361 ≠ gb328)); have n15_ := Aside0.mk ((by rw [hg]; exact Nat.ne_of_lt (blk_lt (g := gb329) (o := .cells #[.int .i64 a2_0, .int .i64 a2_1, .int .i64 a2_2] 27 (0, 0)) (by (with_reducible repeat (first | refine blk_drewN ?_ _ | refine blk_drew ?_ | refine blk_alloc ?_ _)); exact BK329.out)) : gb329 ≠ gb361)); have n16_ := Aside0.mk ((by rw [hg]; exact Nat.ne_of_gt (blk_lt (g := gb329) (o := .cells #[.int .i64 a2_0, .int .i64 a2_1, .int .i64 a2_2] 27 (0, 0)) (by (with_reducible repeat (first | refine blk_drewN ?_ _ | refine blk_drew ?_ | refine blk_alloc ?_ _)); exact BK329.out)) : gb361 ≠ gb329)); have n17_ := Aside0.mk ((by rw [hg]; exact Nat.ne_of_lt (blk_lt (g := gb330) (o := .cells #[.int .i64 a3_0, .int .i64 a3_1, .int .i64 a3_2] 27 (0, 0)) (by (with_reducible repeat (first | refine blk_drewN ?_ _ | refine blk_drew ?_ | refine blk_alloc ?_ _)); exact BK330.out)) : gb330 ≠ gb361)); have n18_ := Aside0.mk ((by rw [hg]; exact Nat.ne_of_gt (blk_lt (g := gb330) (o := .cells #[.int .i64 a3_0, .int .i64 a3_1, .int .i64 a3_2] 27 (0, 0)) (by (with_reducible repeat (first | refine blk_drewN ?_ _ | refine blk_drew ?_ | refine blk_alloc ?_ _)); exact BK330.out)) : gb361 ≠ gb330)); have n19_ := Aside0.mk ((by rw [hg]; exact Nat.ne_of_lt (blk_lt (g := gb337) (o := .cells #[.int .i64 t332, .int .i64 t333, .int .i64 t334, .bool t335] 25 (0, 0)) (by (with_reducible repeat (first | refine blk_drewN ?_ _ | refine blk_drew ?_ | refine blk_alloc ?_ _)); exact BK337.out)) : gb337 ≠ gb361)); have n20_ := Aside0.mk ((by rw [hg]; exact Nat.ne_of_gt (blk_lt (g := gb337) (o := .cells #[.int .i64 t332, .int .i64 t333, .int .i64 t334, .bool t335] 25 (0, 0)) (by (with_reducible repeat (first | refine blk_drewN ?_ _ | refine blk_drew ?_ | refine blk_alloc ?_ _)); exact BK337.out)) : gb361 ≠ gb337)); have n21_ := Aside0.mk ((by rw [hg]; exact Nat.ne_of_lt (blk_lt (g := gb343) (o := .cells #[.int .i64 t338, .int .i64 t339, .int .i64 t340, .bool t341] 25 (0, 0)) (by (with_reducible repeat (first | refine blk_drewN ?_ _ | refine blk_drew ?_ | refine blk_alloc ?_ _)); exact BK343.out)) : gb343 ≠ gb361)); have n22_ := Aside0.mk ((by rw [hg]; exact Nat.ne_of_gt (blk_lt (g := gb343) (o := .cells #[.int .i64 t338, .int .i64 t339, .int .i64 t340, .bool t341] 25 (0, 0)) (by (with_reducible repeat (first | refine blk_drewN ?_ _ | refine blk_drew ?_ | refine blk_alloc ?_ _)); exact BK343.out)) : gb361 ≠ gb343)); have n23_ := Aside0.mk ((by rw [hg]; exact Nat.ne_of_lt (blk_lt (g := gb355) (o := .cells #[.int .i64 t350, .int .i64 t351, .int .i64 t352, .bool t353] 25 (0, 0)) (by (with_reducible repeat (first | refine blk_drewN ?_ _ | refine blk_drew ?_ | refine blk_alloc ?_ _)); exact BK355.out)) : gb355 ≠ gb361)); have n24_ := Aside0.mk ((by rw [hg]; exact Nat.ne_of_gt (blk_lt (g := gb355) (o := .cells #[.int .i64 t350, .int .i64 t351, .int .i64 t352, .bool t353] 25 (0, 0)) (by (with_reducible repeat (first | refine blk_drewN ?_ _ | refine blk_drew ?_ | refine blk_alloc ?_ _)); exact BK355.out)) : gb361 ≠ gb355)); clear BK327; clear BK328; clear BK329; clear BK330; clear BK337; clear BK343; clear BK355; clear HB; have BK327 := n0_; have BK328 := n1_; have BK329 := n2_; have BK330 := n3_; have BK337 := n4_; have BK343 := n5_; have BK355 := n6_; have HB := n7_; have BK361 := n8_; have GW361 := n9_; have GE361 := n10_; have NB327_361 := n11_; have NB361_327 := n12_; have NB328_361 := n13_; have NB361_328 := n14_; have NB329_361 := n15_; have NB361_329 := n16_; have NB330_361 := n17_; have NB361_330 := n18_; have NB337_361 := n19_; have NB361_337 := n20_; have NB343_361 := n21_; have NB361_343 := n22_; have NB355_361 := n23_; have NB361_355 := n24_; clear n0_ n1_ n2_ n3_ n4_ n5_ n6_ n7_ n8_ n9_ n10_ n11_ n12_ n13_ n14_ n15_ n16_ n17_ n18_ n19_ n20_ n21_ n22_ n23_ n24_; clear hb hbox hg; have hnb144 := NB361_327.out; have hnc144 := NB327_361.out; have hnb145 := NB361_328.out; have hnc145 := NB328_361.out; have hnb146 := NB361_329.out; have hnc146 := NB329_361.out; have hnb147 := NB361_330.out; have hnc147 := NB330_361.out; have hnb148 := NB361_337.out; have hnc148 := NB337_361.out; have hnb149 := NB361_343.out; have hnc149 := NB343_361.out; have hnb150 := NB361_355.out; have hnc150 := NB355_361.out; have hcz151_0 : w143.cell? ⟨gb361, 0, none⟩ = some (.int .i64 0) := (blk_cell BK361.out 0).trans rfl; have hcz151_1 : w143.cell? ⟨gb361, 1, none⟩ = some (.int .i64 0) := (blk_cell BK361.out 1).trans rfl; have hcz151_2 : w143.cell? ⟨gb361, 2, none⟩ = some (.int .i64 0) := (blk_cell BK361.out 2).trans rfl; have hcz151_3 : w143.cell? ⟨gb361, 3, none⟩ = some (.bool false) := (blk_cell BK361.out 3).trans rfl; have hfz151_0 := blk_frozen BK361.out 0; have hfz151_1 := blk_frozen BK361.out 1; have hfz151_2 := blk_frozen BK361.out 2; have hfz151_3 := blk_frozen BK361.out 3; have hcz152_0 : w143.cell? ⟨gb355, 0, none⟩ = some (.int .i64 t350) := (blk_cell BK355.out 0).trans rfl; have hcz152_1 : w143.cell? ⟨gb355, 1, none⟩ = some (.int .i64 t351) := (blk_cell BK355.out 1).trans rfl; have hcz152_2 : w143.cell? ⟨gb355, 2, none⟩ = some (.int .i64 t352) := (blk_cell BK355.out 2).trans rfl; have hcz152_3 : w143.cell? ⟨gb355, 3, none⟩ = some (.bool t353) := (blk_cell BK355.out 3).trans rfl; have hfz152_0 := blk_frozen BK355.out 0; have hfz152_1 := blk_frozen BK355.out 1; have hfz152_2 := blk_frozen BK355.out 2; have hfz152_3 := blk_frozen BK355.out 3))
                    go_ret
                    exact ⟨by first | rfl | (simp [errW_none, errW_some] <;> rfl) | (simp [*, errW_none, errW_some] <;> rfl), by repeat (first | (with_reducible first | exact HB.out | apply below_alloc | apply pw_below_drewN | apply below_drew1 | refine below_set ?_ GE327.out | refine below_set ?_ GE328.out | refine below_set ?_ GE329.out | refine below_set ?_ GE330.out | refine below_set ?_ GE337.out | refine below_set ?_ GE343.out | refine below_set ?_ GE355.out | refine below_set ?_ GE361.out) | exact HB.out)⟩
                  · rw [if_neg c111] at H
                    have c111b0 : (t360 == 0) = false := beq_eq_false_iff_ne.mpr c111
                    have c111b1 : (t360 != 0) = true := bne_iff_ne.mpr c111
                    obtain rfl := Option.some.inj H
                    exact absurd hr.out (by decide)
                · rw [if_neg c110] at H
                  have c110b0 : (t354 == 0) = false := beq_eq_false_iff_ne.mpr c110
                  have c110b1 : (t354 != 0) = true := bne_iff_ne.mpr c110
                  obtain rfl := Option.some.inj H
                  exact absurd hr.out (by decide)
              · exact absurd rfl c109
end Go.Proofs.YtnfanhnflcjphaaDoor.PAll
