/- What the Go functions of this seat's laws return, told as Lean functions and proved by their walks; laid by a program of this session out of Lean's own print of the translation. No conditions of its own. -/
import Derived.Test.YtakmioomcnnfjaaPAllx0
import Derived.Test.YtakmioomcnnfjaaPAllx1
import Derived.Test.YtakmioomcnnfjaaPAllx2
import Derived.Test.YtakmioomcnnfjaaPAllx4
import Derived.Test.YtakmioomcnnfjaaPAllx5
namespace Go.Proofs.Ytakmioomcnnfjaa.PAll
open Go.RowKit Go.Proofs.YtakmioomcnnfjaaW.PrintWords Go.Proofs.YtakmioomcnnfjaaW.PrintLast Go.Proofs.YtakmioomcnnfjaaW.PrintMore
attribute [local go_sem] max2_int min2_int max_two min_two max_three min_three max_four min_four   -- for this text's walks alone
set_option linter.unusedVariables false
set_option linter.unusedSimpArgs false

/-! ### chargeparklaw30_BidsFurther: function 8 -/
mutual
def chargeparklaw30_BidsFurther.j0 : Nat → List (List Int) → List Bool → Int → Int → Int → Int → Bool → Bool → Option (Bool)
  | 0, _, _, _, _, _, _, _, _ => none
  | k + 1, x0, x1, x2, x3, x4, x5, x13, x78 => if x78 = true then (some x13) else (if (wrap64 (x2 + 1)) = 0 then (none) else (chargeparklaw30_BidsFurther.l0 k x0 x1 x2 x3 x4 x5 x13 (Int.tmod x4 (wrap64 (x2 + 1))) ([] : List (List Int)) ([] : List Bool) 0))
def chargeparklaw30_BidsFurther.l0 : Nat → List (List Int) → List Bool → Int → Int → Int → Int → Bool → Int → List (List Int) → List Bool → Int → Option (Bool)
  | 0, _, _, _, _, _, _, _, _, _, _, _ => none
  | k + 1, x0, x1, x2, x3, x4, x5, x13, x15, x16, x17, x18 => if x18 ≤ (x0.length : Int) then (if x18 = x15 then (chargeparklaw30_BidsFurther.l1 k x0 x1 x2 x3 x4 x5 x13 x15 x16 x17 x18 ([] : List Int) 0) else (if x18 < (x0.length : Int) then (if 0 ≤ x18 then (if x16.length < 5864062014805 then (if x18 < (x1.length : Int) then (if x17.length < 140737488355328 then (chargeparklaw30_BidsFurther.l0 k x0 x1 x2 x3 x4 x5 x13 x15 (x16 ++ [rd_L1 x0 x18]) (x17 ++ [rdOf false x1 x18]) (wrap64 (x18 + 1))) else (none)) else (none)) else (none)) else (none)) else (chargeparklaw30_BidsFurther.l0 k x0 x1 x2 x3 x4 x5 x13 x15 x16 x17 (wrap64 (x18 + 1))))) else ((bids_Baseline.f k x0 x1 x2 x3).bind fun bt310 => ((bids_Baseline.f k x16 x17 (wrap64 (x2 + 1)) x3).bind fun bt312 => ((bids_Delivered.f x0 x1 x2).bind fun bt314 => ((bids_Delivered.f x16 x17 (wrap64 (x2 + 1))).bind fun bt316 => (if x13 = true then (if bt310.1 = bt312.1 then (if bt310.2 = bt312.2 then (if bt314.1 = bt316.1 then (chargeparklaw30_BidsFurther.j3 k x0 x1 x2 x3 x4 x5 (bt314.2 == bt316.2) bt310.1 bt310.2) else (chargeparklaw30_BidsFurther.j3 k x0 x1 x2 x3 x4 x5 false bt310.1 bt310.2)) else (chargeparklaw30_BidsFurther.j3 k x0 x1 x2 x3 x4 x5 false bt310.1 bt310.2)) else (chargeparklaw30_BidsFurther.j3 k x0 x1 x2 x3 x4 x5 false bt310.1 bt310.2)) else (chargeparklaw30_BidsFurther.j3 k x0 x1 x2 x3 x4 x5 false bt310.1 bt310.2))))))
def chargeparklaw30_BidsFurther.l1 : Nat → List (List Int) → List Bool → Int → Int → Int → Int → Bool → Int → List (List Int) → List Bool → Int → List Int → Int → Option (Bool)
  | 0, _, _, _, _, _, _, _, _, _, _, _, _, _ => none
  | k + 1, x0, x1, x2, x3, x4, x5, x13, x15, x16, x17, x18, x19, x20 => if 0 < (x0.length : Int) then (if x20 < ((rd_L1 x0 0).length : Int) then (if x19.length < 17592186044416 then (chargeparklaw30_BidsFurther.l1 k x0 x1 x2 x3 x4 x5 x13 x15 x16 x17 x18 (x19 ++ [x5]) (wrap64 (x20 + 1))) else (none)) else (if x16.length < 5864062014805 then ((some (x16 ++ [x19] : List (List Int))).bind fun y288 => (if x17.length < 140737488355328 then ((some (x17 ++ [true] : List Bool)).bind fun y291 => (if x18 < (x0.length : Int) then (if 0 ≤ x18 then (if y288.length < 5864062014805 then (if x18 < (x1.length : Int) then (if y291.length < 140737488355328 then (chargeparklaw30_BidsFurther.l0 k x0 x1 x2 x3 x4 x5 x13 x15 (y288 ++ [rd_L1 x0 x18]) (y291 ++ [rdOf false x1 x18]) (wrap64 (x18 + 1))) else (none)) else (none)) else (none)) else (none)) else (chargeparklaw30_BidsFurther.l0 k x0 x1 x2 x3 x4 x5 x13 x15 y288 y291 (wrap64 (x18 + 1))))) else (none))) else (none))) else (none)
def chargeparklaw30_BidsFurther.j3 : Nat → List (List Int) → List Bool → Int → Int → Int → Int → Bool → Int → Int → Option (Bool)
  | 0, _, _, _, _, _, _, _, _, _ => none
  | k + 1, x0, x1, x2, x3, x4, x5, x13, x21, x22 => (chargeparkref30_Copy.f k x0).bind fun t318 => (if (x0.length : Int) = 0 then (none) else ((chargeparklaw30_counts.f k x1 (Int.tmod x4 (x0.length : Int)) x2).bind fun t321 => (if t321 = true then ((chargeparklaw30_counts.f k x1 (Int.tmod x5 (x0.length : Int)) x2).bind fun t322 => (if t322 = true then (if 0 ≤ (Int.tmod x5 (x0.length : Int)) then (if (Int.tmod x5 (x0.length : Int)) < (t318.length : Int) then (if 0 ≤ (Int.tmod x4 (x0.length : Int)) then (if (Int.tmod x4 (x0.length : Int)) < (t318.length : Int) then ((bids_Baseline.f k ((t318.set ((Int.tmod x4 (x0.length : Int)) : Int).toNat (rd_L1 t318 (Int.tmod x5 (x0.length : Int)))).set ((Int.tmod x5 (x0.length : Int)) : Int).toNat (rd_L1 t318 (Int.tmod x4 (x0.length : Int)))) x1 x2 x3).bind fun bt327 => (if x13 = true then (if bt327.1 = x21 then (some (bt327.2 == x22)) else (some false)) else (some false))) else (none)) else (none)) else (none)) else (none)) else ((bids_Baseline.f k t318 x1 x2 x3).bind fun bt329 => (if x13 = true then (if bt329.1 = x21 then (some (bt329.2 == x22)) else (some false)) else (some false))))) else ((bids_Baseline.f k t318 x1 x2 x3).bind fun bt331 => (if x13 = true then (if bt331.1 = x21 then (some (bt331.2 == x22)) else (some false)) else (some false))))))
end
def chargeparklaw30_BidsFurther.f (k : Nat) (l0 : List (List Int)) (l1 : List Bool) (a2 : Int) (a3 : Int) (a4 : Int) (a5 : Int) : Option (Bool) := (chargeparklaw30_head_c.f).bind fun _ => ((chargeparklaw30_usable.f k l0 l1).bind fun t282 => (if t282 = true then (if (l0.length : Int) ≥ 60 then (chargeparklaw30_BidsFurther.j0 k l0 l1 a2 a3 a4 a5 true true) else (if a2 < 0 then (chargeparklaw30_BidsFurther.j0 k l0 l1 a2 a3 a4 a5 true true) else (if a2 ≥ (l0.length : Int) then (chargeparklaw30_BidsFurther.j0 k l0 l1 a2 a3 a4 a5 true true) else (if a3 < 0 then (chargeparklaw30_BidsFurther.j0 k l0 l1 a2 a3 a4 a5 true true) else (if 0 < (l0.length : Int) then (if a3 ≥ ((rd_L1 l0 0).length : Int) then (chargeparklaw30_BidsFurther.j0 k l0 l1 a2 a3 a4 a5 true true) else (if a4 < 0 then (chargeparklaw30_BidsFurther.j0 k l0 l1 a2 a3 a4 a5 true true) else (if a5 < 0 then (chargeparklaw30_BidsFurther.j0 k l0 l1 a2 a3 a4 a5 true true) else (chargeparklaw30_BidsFurther.j0 k l0 l1 a2 a3 a4 a5 true (decide (a5 > 1000)))))) else (none)))))) else (chargeparklaw30_BidsFurther.j0 k l0 l1 a2 a3 a4 a5 true true)))
theorem chargeparklaw30_BidsFurther.mono_l : ∀ k, (∀ y0 y1 y2 y3 y4 y5 y6 y7, LeO (chargeparklaw30_BidsFurther.j0 k y0 y1 y2 y3 y4 y5 y6 y7) (chargeparklaw30_BidsFurther.j0 (k + 1) y0 y1 y2 y3 y4 y5 y6 y7)) ∧ (∀ y0 y1 y2 y3 y4 y5 y6 y7 y8 y9 y10, LeO (chargeparklaw30_BidsFurther.l0 k y0 y1 y2 y3 y4 y5 y6 y7 y8 y9 y10) (chargeparklaw30_BidsFurther.l0 (k + 1) y0 y1 y2 y3 y4 y5 y6 y7 y8 y9 y10)) ∧ (∀ y0 y1 y2 y3 y4 y5 y6 y7 y8 y9 y10 y11 y12, LeO (chargeparklaw30_BidsFurther.l1 k y0 y1 y2 y3 y4 y5 y6 y7 y8 y9 y10 y11 y12) (chargeparklaw30_BidsFurther.l1 (k + 1) y0 y1 y2 y3 y4 y5 y6 y7 y8 y9 y10 y11 y12)) ∧ (∀ y0 y1 y2 y3 y4 y5 y6 y7 y8, LeO (chargeparklaw30_BidsFurther.j3 k y0 y1 y2 y3 y4 y5 y6 y7 y8) (chargeparklaw30_BidsFurther.j3 (k + 1) y0 y1 y2 y3 y4 y5 y6 y7 y8))
  | 0 => ⟨fun _ _ _ _ _ _ _ _ r h => by simp [chargeparklaw30_BidsFurther.j0] at h, fun _ _ _ _ _ _ _ _ _ _ _ r h => by simp [chargeparklaw30_BidsFurther.l0] at h, fun _ _ _ _ _ _ _ _ _ _ _ _ _ r h => by simp [chargeparklaw30_BidsFurther.l1] at h, fun _ _ _ _ _ _ _ _ _ r h => by simp [chargeparklaw30_BidsFurther.j3] at h⟩
  | k + 1 => by
    obtain ⟨ih0, ih1, ih2, ih3⟩ := chargeparklaw30_BidsFurther.mono_l k
    refine ⟨?_, ?_, ?_, ?_⟩
    · intro y0 y1 y2 y3 y4 y5 y6 y7
      unfold chargeparklaw30_BidsFurther.j0
      repeat' first
      | (with_reducible exact ih0 _ _ _ _ _ _ _ _)
      | (with_reducible exact ih1 _ _ _ _ _ _ _ _ _ _ _)
      | (with_reducible exact ih2 _ _ _ _ _ _ _ _ _ _ _ _ _)
      | (with_reducible exact ih3 _ _ _ _ _ _ _ _ _)
      | (with_reducible exact bids_Baseline.mono _ _ _ _ _)
      | (with_reducible exact chargeparklaw30_counts.mono _ _ _ _)
      | (with_reducible exact chargeparklaw30_usable.mono _ _ _)
      | (with_reducible exact chargeparkref30_Copy.mono _ _)
      | (with_reducible exact LeO.refl _)
      | (with_reducible exact LeO.none _)
      | (with_reducible refine LeO.ite ?_ ?_)
      | (with_reducible refine LeO.bind ?_ (fun _ => ?_))
      | exact ih0 _ _ _ _ _ _ _ _
      | exact ih1 _ _ _ _ _ _ _ _ _ _ _
      | exact ih2 _ _ _ _ _ _ _ _ _ _ _ _ _
      | exact ih3 _ _ _ _ _ _ _ _ _
      | exact bids_Baseline.mono _ _ _ _ _
      | exact chargeparklaw30_counts.mono _ _ _ _
      | exact chargeparklaw30_usable.mono _ _ _
      | exact chargeparkref30_Copy.mono _ _
      | exact LeO.none _
      | refine LeO.ite ?_ ?_
      | refine LeO.bind ?_ (fun _ => ?_)
    · intro y0 y1 y2 y3 y4 y5 y6 y7 y8 y9 y10
      unfold chargeparklaw30_BidsFurther.l0
      repeat' first
      | (with_reducible exact ih0 _ _ _ _ _ _ _ _)
      | (with_reducible exact ih1 _ _ _ _ _ _ _ _ _ _ _)
      | (with_reducible exact ih2 _ _ _ _ _ _ _ _ _ _ _ _ _)
      | (with_reducible exact ih3 _ _ _ _ _ _ _ _ _)
      | (with_reducible exact bids_Baseline.mono _ _ _ _ _)
      | (with_reducible exact chargeparklaw30_counts.mono _ _ _ _)
      | (with_reducible exact chargeparklaw30_usable.mono _ _ _)
      | (with_reducible exact chargeparkref30_Copy.mono _ _)
      | (with_reducible exact LeO.refl _)
      | (with_reducible exact LeO.none _)
      | (with_reducible refine LeO.ite ?_ ?_)
      | (with_reducible refine LeO.bind ?_ (fun _ => ?_))
      | exact ih0 _ _ _ _ _ _ _ _
      | exact ih1 _ _ _ _ _ _ _ _ _ _ _
      | exact ih2 _ _ _ _ _ _ _ _ _ _ _ _ _
      | exact ih3 _ _ _ _ _ _ _ _ _
      | exact bids_Baseline.mono _ _ _ _ _
      | exact chargeparklaw30_counts.mono _ _ _ _
      | exact chargeparklaw30_usable.mono _ _ _
      | exact chargeparkref30_Copy.mono _ _
      | exact LeO.none _
      | refine LeO.ite ?_ ?_
      | refine LeO.bind ?_ (fun _ => ?_)
    · intro y0 y1 y2 y3 y4 y5 y6 y7 y8 y9 y10 y11 y12
      unfold chargeparklaw30_BidsFurther.l1
      repeat' first
      | (with_reducible exact ih0 _ _ _ _ _ _ _ _)
      | (with_reducible exact ih1 _ _ _ _ _ _ _ _ _ _ _)
      | (with_reducible exact ih2 _ _ _ _ _ _ _ _ _ _ _ _ _)
      | (with_reducible exact ih3 _ _ _ _ _ _ _ _ _)
      | (with_reducible exact bids_Baseline.mono _ _ _ _ _)
      | (with_reducible exact chargeparklaw30_counts.mono _ _ _ _)
      | (with_reducible exact chargeparklaw30_usable.mono _ _ _)
      | (with_reducible exact chargeparkref30_Copy.mono _ _)
      | (with_reducible exact LeO.refl _)
      | (with_reducible exact LeO.none _)
      | (with_reducible refine LeO.ite ?_ ?_)
      | (with_reducible refine LeO.bind ?_ (fun _ => ?_))
      | exact ih0 _ _ _ _ _ _ _ _
      | exact ih1 _ _ _ _ _ _ _ _ _ _ _
      | exact ih2 _ _ _ _ _ _ _ _ _ _ _ _ _
      | exact ih3 _ _ _ _ _ _ _ _ _
      | exact bids_Baseline.mono _ _ _ _ _
      | exact chargeparklaw30_counts.mono _ _ _ _
      | exact chargeparklaw30_usable.mono _ _ _
      | exact chargeparkref30_Copy.mono _ _
      | exact LeO.none _
      | refine LeO.ite ?_ ?_
      | refine LeO.bind ?_ (fun _ => ?_)
    · intro y0 y1 y2 y3 y4 y5 y6 y7 y8
      unfold chargeparklaw30_BidsFurther.j3
      repeat' first
      | (with_reducible exact ih0 _ _ _ _ _ _ _ _)
      | (with_reducible exact ih1 _ _ _ _ _ _ _ _ _ _ _)
      | (with_reducible exact ih2 _ _ _ _ _ _ _ _ _ _ _ _ _)
      | (with_reducible exact ih3 _ _ _ _ _ _ _ _ _)
      | (with_reducible exact bids_Baseline.mono _ _ _ _ _)
      | (with_reducible exact chargeparklaw30_counts.mono _ _ _ _)
      | (with_reducible exact chargeparklaw30_usable.mono _ _ _)
      | (with_reducible exact chargeparkref30_Copy.mono _ _)
      | (with_reducible exact LeO.refl _)
      | (with_reducible exact LeO.none _)
      | (with_reducible refine LeO.ite ?_ ?_)
      | (with_reducible refine LeO.bind ?_ (fun _ => ?_))
      | exact ih0 _ _ _ _ _ _ _ _
      | exact ih1 _ _ _ _ _ _ _ _ _ _ _
      | exact ih2 _ _ _ _ _ _ _ _ _ _ _ _ _
      | exact ih3 _ _ _ _ _ _ _ _ _
      | exact bids_Baseline.mono _ _ _ _ _
      | exact chargeparklaw30_counts.mono _ _ _ _
      | exact chargeparklaw30_usable.mono _ _ _
      | exact chargeparkref30_Copy.mono _ _
      | exact LeO.none _
      | refine LeO.ite ?_ ?_
      | refine LeO.bind ?_ (fun _ => ?_)
theorem chargeparklaw30_BidsFurther.mono : ∀ a0 a1 a2 a3 a4 a5 k, LeO (chargeparklaw30_BidsFurther.f k a0 a1 a2 a3 a4 a5) (chargeparklaw30_BidsFurther.f (k + 1) a0 a1 a2 a3 a4 a5) := by
  intro a0 a1 a2 a3 a4 a5 k
  obtain ⟨ih0, ih1, ih2, ih3⟩ := chargeparklaw30_BidsFurther.mono_l k
  unfold chargeparklaw30_BidsFurther.f
  repeat' first
      | (with_reducible exact ih0 _ _ _ _ _ _ _ _)
      | (with_reducible exact ih1 _ _ _ _ _ _ _ _ _ _ _)
      | (with_reducible exact ih2 _ _ _ _ _ _ _ _ _ _ _ _ _)
      | (with_reducible exact ih3 _ _ _ _ _ _ _ _ _)
      | (with_reducible exact bids_Baseline.mono _ _ _ _ _)
      | (with_reducible exact chargeparklaw30_counts.mono _ _ _ _)
      | (with_reducible exact chargeparklaw30_usable.mono _ _ _)
      | (with_reducible exact chargeparkref30_Copy.mono _ _)
      | (with_reducible exact LeO.refl _)
      | (with_reducible exact LeO.none _)
      | (with_reducible refine LeO.ite ?_ ?_)
      | (with_reducible refine LeO.bind ?_ (fun _ => ?_))
      | exact ih0 _ _ _ _ _ _ _ _
      | exact ih1 _ _ _ _ _ _ _ _ _ _ _
      | exact ih2 _ _ _ _ _ _ _ _ _ _ _ _ _
      | exact ih3 _ _ _ _ _ _ _ _ _
      | exact bids_Baseline.mono _ _ _ _ _
      | exact chargeparklaw30_counts.mono _ _ _ _
      | exact chargeparklaw30_usable.mono _ _ _
      | exact chargeparkref30_Copy.mono _ _
      | exact LeO.none _
      | refine LeO.ite ?_ ?_
      | refine LeO.bind ?_ (fun _ => ?_)
def chargeparklaw30_BidsFurther.T31 : Bool × List (List Nat × List Nat) := (true, [([], []), ([], []), ([], []), ([], []), ([], []), ([], []), ([4, 5], [4, 5]), ([6], [6]), ([], []), ([], []), ([8, 9], [8, 9]), ([10], [10]), ([0, 1, 0, 1, 4, 5, 6, 7, 11], [0, 1]), ([12, 7, 0, 1, 4, 5, 6, 7, 11], [7, 12]), ([2, 3, 0, 1, 2, 3, 4, 5, 6, 7, 8, 9, 10, 11, 12, 13], [2, 3]), ([14, 11, 13, 0, 1, 2, 3, 4, 5, 6, 7, 8, 9, 10, 11, 12, 13], [11, 14])])
def chargeparklaw30_BidsFurther.B31 : List Nat := [0, 0, 0, 0, 0, 0, 48, 112, 0, 0, 768, 1792, 4083, 8179, 16383, 32767]
theorem chargeparklaw30_BidsFurther.tab31 : rtab .any (opsOf Try.f8 31) = chargeparklaw30_BidsFurther.T31 := by kernel_rfl
theorem chargeparklaw30_BidsFurther.bits31 : waitsOk chargeparklaw30_BidsFurther.T31.2 chargeparklaw30_BidsFurther.B31 = true := by kernel_rfl
set_option maxHeartbeats 8000000 in
set_option maxRecDepth 100000 in
theorem chargeparklaw30_BidsFurther.calls (k : Nat) (P0_ : Nat → Prop) (A0 : Option Addr) (c0 : Nat) (l0 : List (List Int)) (A1 : Option Addr) (c1 : Nat) (l1 : List Bool) (a2 : Int) (a3 : Int) (a4 : Int) (a5 : Int) (r : Bool) (w : World) (hs0 : Kd.V (Kd.slice 3 (Kd.int .i64)) 33 w w.heap.size (fun k_ => P0_ k_) (.slice A0 l0.length c0) l0) (hr1 : Kd.C Kd.bool w A1 l1.length l1) (hc1 : l1.length ≤ c1) (h : chargeparklaw30_BidsFurther.f k l0 l1 a2 a3 a4 a5 = some r) (hr : Aside0 (r = true)) :
    Calls Try.prog 8 #[.slice A0 l0.length c0, .slice A1 l1.length c1, .int .i64 a2, .int .i64 a3, .int .i64 a4, .int .i64 a5] w fun e w' => e = .returned (.bool r) ∧ Below w.heap.size w w' := by
  have HO0 := Aside0.mk (show Kd.V (Kd.slice 3 (Kd.int .i64)) 33 w w.heap.size (fun k_ => (P0_ k_ ∨ w.heap.size ≤ k_)) (.slice A0 l0.length c0) l0 from Kd.V_mono hs0 (fun k_ hk => .inl hk))
  have HR1 := Aside0.mk hr1
  have HC1 := Aside0.mk hc1
  clear hr1 hc1
  have HB := Aside0.mk (Below.refl w.heap.size w)
  have H : ((chargeparklaw30_head_c.f).bind fun _ => ((chargeparklaw30_usable.f k l0 l1).bind fun t282 => (if t282 = true then (if (l0.length : Int) ≥ 60 then (chargeparklaw30_BidsFurther.j0 k l0 l1 a2 a3 a4 a5 true true) else (if a2 < 0 then (chargeparklaw30_BidsFurther.j0 k l0 l1 a2 a3 a4 a5 true true) else (if a2 ≥ (l0.length : Int) then (chargeparklaw30_BidsFurther.j0 k l0 l1 a2 a3 a4 a5 true true) else (if a3 < 0 then (chargeparklaw30_BidsFurther.j0 k l0 l1 a2 a3 a4 a5 true true) else (if 0 < (l0.length : Int) then (if a3 ≥ ((rd_L1 l0 0).length : Int) then (chargeparklaw30_BidsFurther.j0 k l0 l1 a2 a3 a4 a5 true true) else (if a4 < 0 then (chargeparklaw30_BidsFurther.j0 k l0 l1 a2 a3 a4 a5 true true) else (if a5 < 0 then (chargeparklaw30_BidsFurther.j0 k l0 l1 a2 a3 a4 a5 true true) else (chargeparklaw30_BidsFurther.j0 k l0 l1 a2 a3 a4 a5 true (decide (a5 > 1000)))))) else (none)))))) else (chargeparklaw30_BidsFurther.j0 k l0 l1 a2 a3 a4 a5 true true)))) = some r := h
  clear h
  replace H := Option.bind_eq_some_iff.mp H
  obtain ⟨tc_, A70, H⟩ := H
  obtain rfl : true = tc_ := Option.some.inj ((show chargeparklaw30_head_c.f = some true by kernel_rfl).symm.trans A70)
  replace H : ((chargeparklaw30_usable.f k l0 l1).bind fun t282 => (if t282 = true then (if (l0.length : Int) ≥ 60 then (chargeparklaw30_BidsFurther.j0 k l0 l1 a2 a3 a4 a5 true true) else (if a2 < 0 then (chargeparklaw30_BidsFurther.j0 k l0 l1 a2 a3 a4 a5 true true) else (if a2 ≥ (l0.length : Int) then (chargeparklaw30_BidsFurther.j0 k l0 l1 a2 a3 a4 a5 true true) else (if a3 < 0 then (chargeparklaw30_BidsFurther.j0 k l0 l1 a2 a3 a4 a5 true true) else (if 0 < (l0.length : Int) then (if a3 ≥ ((rd_L1 l0 0).length : Int) then (chargeparklaw30_BidsFurther.j0 k l0 l1 a2 a3 a4 a5 true true) else (if a4 < 0 then (chargeparklaw30_BidsFurther.j0 k l0 l1 a2 a3 a4 a5 true true) else (if a5 < 0 then (chargeparklaw30_BidsFurther.j0 k l0 l1 a2 a3 a4 a5 true true) else (chargeparklaw30_BidsFurther.j0 k l0 l1 a2 a3 a4 a5 true (decide (a5 > 1000)))))) else (none)))))) else (chargeparklaw30_BidsFurther.j0 k l0 l1 a2 a3 a4 a5 true true))) = some r := H
  have A7 := Aside0.mk A70
  clear A70
  replace H := Option.bind_eq_some_iff.mp H
  obtain ⟨t282, A80, H⟩ := H
  replace H : (if t282 = true then (if (l0.length : Int) ≥ 60 then (chargeparklaw30_BidsFurther.j0 k l0 l1 a2 a3 a4 a5 true true) else (if a2 < 0 then (chargeparklaw30_BidsFurther.j0 k l0 l1 a2 a3 a4 a5 true true) else (if a2 ≥ (l0.length : Int) then (chargeparklaw30_BidsFurther.j0 k l0 l1 a2 a3 a4 a5 true true) else (if a3 < 0 then (chargeparklaw30_BidsFurther.j0 k l0 l1 a2 a3 a4 a5 true true) else (if 0 < (l0.length : Int) then (if a3 ≥ ((rd_L1 l0 0).length : Int) then (chargeparklaw30_BidsFurther.j0 k l0 l1 a2 a3 a4 a5 true true) else (if a4 < 0 then (chargeparklaw30_BidsFurther.j0 k l0 l1 a2 a3 a4 a5 true true) else (if a5 < 0 then (chargeparklaw30_BidsFurther.j0 k l0 l1 a2 a3 a4 a5 true true) else (chargeparklaw30_BidsFurther.j0 k l0 l1 a2 a3 a4 a5 true (decide (a5 > 1000)))))) else (none)))))) else (chargeparklaw30_BidsFurther.j0 k l0 l1 a2 a3 a4 a5 true true)) = some r := H
  have A8 := Aside0.mk A80
  clear A80
  have HC9 := Aside0.mk H
  clear H
  go_enter Try.func8, Try.ntmps8
  go_upto_region 3 with (first | ((with_reducible refine gate_callee (f := 9) rfl ?_); refine goesL_ (some 34) rfl rfl Try.func9 (by kernel_rfl) rfl #[] rfl (by (try simp only [List.map_toArray, List.map_cons, List.map_nil]); first | done | rfl | (simp only [List.length_drop, List.length_take]; rfl)) ?_; (with_reducible refine (chargeparklaw30_head_c.calls  true _ A7.out).mono ?_); rintro e w10 ⟨rfl, hb⟩; refine ⟨_, rfl, ?_⟩; have n0_ := Aside0.mk (Kd.V_below (by (with_reducible repeat (first | apply Kd.V_alloc | apply Kd.V_drewN | apply Kd.V_drew)); exact HO0.out) hb); have n1_ := Aside0.mk (below_step (by repeat (first | (with_reducible first | exact HB.out | apply below_alloc | apply pw_below_drewN | apply below_drew1) | exact HB.out)) hb); clear HO0; clear HB; have HO0 := n0_; have HB := n1_; clear n0_ n1_; (try clear hb); (try clear hb2); (try clear hk); (try clear hi)) | ((with_reducible refine gate_callee (f := 15) rfl ?_); refine goesL_ (some 37) rfl rfl Try.func15 (by kernel_rfl) rfl #[.slice A0 l0.length c0, .slice A1 l1.length c1] rfl (by (try simp only [List.map_toArray, List.map_cons, List.map_nil]); first | done | rfl | (simp only [List.length_drop, List.length_take]; rfl)) ?_; (with_reducible refine (chargeparklaw30_usable.calls k _ _ l0 _ _ l1 t282 _ ?side1 ?side2 ?side3 ?side4 A8.out).mono ?_); (case side1 => repeat (first | exact (Kd.V_reads' HO0.out).2.2 | (with_reducible refine Kd.C_alloc ?_ _) | (with_reducible refine Kd.C_drewN ?_ _) | (with_reducible refine Kd.C_drew ?_))); (case side2 => exact (Kd.V_reads' HO0.out).2.1); (case side3 => repeat (first | exact (Kd.C_below HR1.out HB.out) | (with_reducible refine Kd.C_alloc ?_ _) | (with_reducible refine Kd.C_drewN ?_ _) | (with_reducible refine Kd.C_drew ?_))); (case side4 => exact HC1.out); rintro e w' ⟨rfl, ⟨nd, rfl⟩⟩; refine ⟨_, rfl, ?_⟩))
  (try simp only [Act.put, List.setIfInBounds_toArray, List.set_cons_zero, List.set_cons_succ])
  go_cut [78] (fun v78 wc => ∃ (kq : Nat) (x78_8 : Bool), v78 = .bool x78_8 ∧ Aside0 (chargeparklaw30_BidsFurther.j0 kq l0 l1 a2 a3 a4 a5 true x78_8 = some r) ∧ Aside0 (kq ≤ k) ∧ Aside0 (Kd.V (Kd.slice 3 (Kd.int .i64)) 33 wc w.heap.size (fun k_ => (P0_ k_ ∨ w.heap.size ≤ k_)) (.slice A0 l0.length c0) l0) ∧ Aside0 (Below w.heap.size w wc))
  case first => as_aux_lemma =>
    have H := HC9.out
    clear HC9
    by_cases c11 : t282 = true
    · subst c11
      have H1 : (if (l0.length : Int) ≥ 60 then (chargeparklaw30_BidsFurther.j0 k l0 l1 a2 a3 a4 a5 true true) else (if a2 < 0 then (chargeparklaw30_BidsFurther.j0 k l0 l1 a2 a3 a4 a5 true true) else (if a2 ≥ (l0.length : Int) then (chargeparklaw30_BidsFurther.j0 k l0 l1 a2 a3 a4 a5 true true) else (if a3 < 0 then (chargeparklaw30_BidsFurther.j0 k l0 l1 a2 a3 a4 a5 true true) else (if 0 < (l0.length : Int) then (if a3 ≥ ((rd_L1 l0 0).length : Int) then (chargeparklaw30_BidsFurther.j0 k l0 l1 a2 a3 a4 a5 true true) else (if a4 < 0 then (chargeparklaw30_BidsFurther.j0 k l0 l1 a2 a3 a4 a5 true true) else (if a5 < 0 then (chargeparklaw30_BidsFurther.j0 k l0 l1 a2 a3 a4 a5 true true) else (chargeparklaw30_BidsFurther.j0 k l0 l1 a2 a3 a4 a5 true (decide (a5 > 1000)))))) else (none)))))) = some r := by first | (rw [if_pos rfl] at H; exact H) | (rw [if_pos trivial] at H; exact H)
      clear H
      have H := H1
      clear H1
      by_cases c12 : (l0.length : Int) ≥ 60
      · rw [if_pos c12] at H
        have c12b0 : decide (60 ≤ (l0.length : Int)) = true := decide_eq_true c12
        have c12b1 : decide (60 ≤ l0.length) = true := decide_eq_true (by omega)
        clear c12
        (first | rw [c12b0] | (simp only [i64_w, i32_w]; rw [c12b0]) | skip)
        have H' := Aside0.mk H
        clear H
        go_wp2
        go_meet
        case rel => exact ⟨_, (true), (by first | rfl | (simp; done) | (simp [*]; done)), H', ⟨by first | omega | exact Nat.le_refl _⟩, ⟨by (with_reducible repeat (first | apply Kd.V_alloc | apply Kd.V_drewN | apply Kd.V_drew)); exact HO0.out⟩, ⟨by repeat (first | (with_reducible first | exact HB.out | apply below_alloc | apply pw_below_drewN | apply below_drew1) | exact HB.out)⟩⟩
      · rw [if_neg c12] at H
        have c12b0 : decide (60 ≤ (l0.length : Int)) = false := decide_eq_false c12
        have c12b1 : decide (60 ≤ l0.length) = false := decide_eq_false (by omega)
        clear c12
        (first | rw [c12b0] | (simp only [i64_w, i32_w]; rw [c12b0]) | skip)
        by_cases c13 : a2 < 0
        · rw [if_pos c13] at H
          have c13b0 : decide (a2 < 0) = true := decide_eq_true c13
          clear c13
          have H' := Aside0.mk H
          clear H
          go_wp2
          go_meet
          case rel => exact ⟨_, (true), (by first | rfl | (simp; done) | (simp [*]; done)), H', ⟨by first | omega | exact Nat.le_refl _⟩, ⟨by (with_reducible repeat (first | apply Kd.V_alloc | apply Kd.V_drewN | apply Kd.V_drew)); exact HO0.out⟩, ⟨by repeat (first | (with_reducible first | exact HB.out | apply below_alloc | apply pw_below_drewN | apply below_drew1) | exact HB.out)⟩⟩
        · rw [if_neg c13] at H
          have c13b0 : decide (a2 < 0) = false := decide_eq_false c13
          clear c13
          by_cases c14 : a2 ≥ (l0.length : Int)
          · rw [if_pos c14] at H
            have c14b0 : decide ((l0.length : Int) ≤ a2) = true := decide_eq_true c14
            clear c14
            have H' := Aside0.mk H
            clear H
            go_wp2
            go_meet
            case rel => exact ⟨_, (true), (by first | rfl | (simp; done) | (simp [*]; done)), H', ⟨by first | omega | exact Nat.le_refl _⟩, ⟨by (with_reducible repeat (first | apply Kd.V_alloc | apply Kd.V_drewN | apply Kd.V_drew)); exact HO0.out⟩, ⟨by repeat (first | (with_reducible first | exact HB.out | apply below_alloc | apply pw_below_drewN | apply below_drew1) | exact HB.out)⟩⟩
          · rw [if_neg c14] at H
            have c14b0 : decide ((l0.length : Int) ≤ a2) = false := decide_eq_false c14
            clear c14
            by_cases c15 : a3 < 0
            · rw [if_pos c15] at H
              have c15b0 : decide (a3 < 0) = true := decide_eq_true c15
              clear c15
              have H' := Aside0.mk H
              clear H
              go_wp2
              go_meet
              case rel => exact ⟨_, (true), (by first | rfl | (simp; done) | (simp [*]; done)), H', ⟨by first | omega | exact Nat.le_refl _⟩, ⟨by (with_reducible repeat (first | apply Kd.V_alloc | apply Kd.V_drewN | apply Kd.V_drew)); exact HO0.out⟩, ⟨by repeat (first | (with_reducible first | exact HB.out | apply below_alloc | apply pw_below_drewN | apply below_drew1) | exact HB.out)⟩⟩
            · rw [if_neg c15] at H
              have c15b0 : decide (a3 < 0) = false := decide_eq_false c15
              clear c15
              by_cases c16 : 0 < (l0.length : Int)
              · rw [if_pos c16] at H
                have c16b0 : decide (0 < (l0.length : Int)) = true := decide_eq_true c16
                have c16b1 : decide (0 < l0.length) = true := decide_eq_true (by omega)
                clear c16
                by_cases c17 : a3 ≥ ((rd_L1 l0 0).length : Int)
                · rw [if_pos c17] at H
                  have c17b0 : decide (((rd_L1 l0 0).length : Int) ≤ a3) = true := decide_eq_true c17
                  clear c17
                  have H' := Aside0.mk H
                  clear H
                  have p283 : 0 ≤ (0 : Int) := (by omega)
                  have q283 : 0 < (l0.length : Int) := of_decide_eq_true (by first | (with_reducible assumption) | assumption)
                  obtain ⟨ad283, A283_0, c283_0, e283, hx283_0, hl283_0, hi283_0⟩ := at_L1 (Kd.V_reads' HO0.out).2.2 0 p283 q283
                  cases e283
                  obtain ⟨ce283, hce283, hMe283, hcc283⟩ := Kd.V_get HO0.out [] 0 p283 (by first | exact q283 | exact of_decide_eq_true (by first | (with_reducible assumption) | assumption) | (have e_ := (Kd.V_reads' HO0.out).1; omega))
                  obtain ⟨ua283_0, uc283_0, rfl, ul283_0, ge283_0⟩ := Kd.FK_slice_open hMe283
                  have hv283_0 := hcc283 0 _ rfl
                  rw [Nat.add_zero, show ((Kd.slice 3 (Kd.int .i64))).sz = 1 from rfl, Nat.mul_one] at hv283_0
                  replace hv283_0 := Option.some.inj (hv283_0.symm.trans hx283_0)
                  injection hv283_0 with hva_ hvn_ hvc_
                  rw [hva_] at ge283_0
                  rw [hvc_] at ul283_0
                  have HL283_0 := Aside0.mk (show Kd.V (Kd.int .i64) 3 _ w.heap.size _ _ (rd_L1 l0 0) from Kd.V_mk ul283_0 ge283_0)
                  clear hva_ hvn_ hvc_ ge283_0 ul283_0
                  clear hcc283 hce283
                  have qi283 : (0 < l0.length) = True := eq_true (by omega)
                  (try rw [show ((0 : Int)).toNat = 0 from rfl] at hx283_0)
                  (try rw [Addr.add_zero'] at hx283_0)
                  have HR283_0 := Aside0.mk hi283_0
                  have HC283_0 := Aside0.mk hl283_0
                  clear hi283_0 hl283_0
                  replace p283 := eq_true p283
                  replace q283 := eq_true q283
                  go_wp2
                  go_meet
                  case rel => exact ⟨_, (true), (by first | rfl | (simp; done) | (simp [*]; done)), H', ⟨by first | omega | exact Nat.le_refl _⟩, ⟨by (with_reducible repeat (first | apply Kd.V_alloc | apply Kd.V_drewN | apply Kd.V_drew)); exact HO0.out⟩, ⟨by repeat (first | (with_reducible first | exact HB.out | apply below_alloc | apply pw_below_drewN | apply below_drew1) | exact HB.out)⟩⟩
                · rw [if_neg c17] at H
                  have c17b0 : decide (((rd_L1 l0 0).length : Int) ≤ a3) = false := decide_eq_false c17
                  clear c17
                  by_cases c18 : a4 < 0
                  · rw [if_pos c18] at H
                    have c18b0 : decide (a4 < 0) = true := decide_eq_true c18
                    clear c18
                    have H' := Aside0.mk H
                    clear H
                    have p283 : 0 ≤ (0 : Int) := (by omega)
                    have q283 : 0 < (l0.length : Int) := of_decide_eq_true (by first | (with_reducible assumption) | assumption)
                    obtain ⟨ad283, A283_0, c283_0, e283, hx283_0, hl283_0, hi283_0⟩ := at_L1 (Kd.V_reads' HO0.out).2.2 0 p283 q283
                    cases e283
                    obtain ⟨ce283, hce283, hMe283, hcc283⟩ := Kd.V_get HO0.out [] 0 p283 (by first | exact q283 | exact of_decide_eq_true (by first | (with_reducible assumption) | assumption) | (have e_ := (Kd.V_reads' HO0.out).1; omega))
                    obtain ⟨ua283_0, uc283_0, rfl, ul283_0, ge283_0⟩ := Kd.FK_slice_open hMe283
                    have hv283_0 := hcc283 0 _ rfl
                    rw [Nat.add_zero, show ((Kd.slice 3 (Kd.int .i64))).sz = 1 from rfl, Nat.mul_one] at hv283_0
                    replace hv283_0 := Option.some.inj (hv283_0.symm.trans hx283_0)
                    injection hv283_0 with hva_ hvn_ hvc_
                    rw [hva_] at ge283_0
                    rw [hvc_] at ul283_0
                    have HL283_0 := Aside0.mk (show Kd.V (Kd.int .i64) 3 _ w.heap.size _ _ (rd_L1 l0 0) from Kd.V_mk ul283_0 ge283_0)
                    clear hva_ hvn_ hvc_ ge283_0 ul283_0
                    clear hcc283 hce283
                    have qi283 : (0 < l0.length) = True := eq_true (by omega)
                    (try rw [show ((0 : Int)).toNat = 0 from rfl] at hx283_0)
                    (try rw [Addr.add_zero'] at hx283_0)
                    have HR283_0 := Aside0.mk hi283_0
                    have HC283_0 := Aside0.mk hl283_0
                    clear hi283_0 hl283_0
                    replace p283 := eq_true p283
                    replace q283 := eq_true q283
                    go_wp2
                    go_meet
                    case rel => exact ⟨_, (true), (by first | rfl | (simp; done) | (simp [*]; done)), H', ⟨by first | omega | exact Nat.le_refl _⟩, ⟨by (with_reducible repeat (first | apply Kd.V_alloc | apply Kd.V_drewN | apply Kd.V_drew)); exact HO0.out⟩, ⟨by repeat (first | (with_reducible first | exact HB.out | apply below_alloc | apply pw_below_drewN | apply below_drew1) | exact HB.out)⟩⟩
                  · rw [if_neg c18] at H
                    have c18b0 : decide (a4 < 0) = false := decide_eq_false c18
                    clear c18
                    by_cases c19 : a5 < 0
                    · rw [if_pos c19] at H
                      have c19b0 : decide (a5 < 0) = true := decide_eq_true c19
                      clear c19
                      have H' := Aside0.mk H
                      clear H
                      have p283 : 0 ≤ (0 : Int) := (by omega)
                      have q283 : 0 < (l0.length : Int) := of_decide_eq_true (by first | (with_reducible assumption) | assumption)
                      obtain ⟨ad283, A283_0, c283_0, e283, hx283_0, hl283_0, hi283_0⟩ := at_L1 (Kd.V_reads' HO0.out).2.2 0 p283 q283
                      cases e283
                      obtain ⟨ce283, hce283, hMe283, hcc283⟩ := Kd.V_get HO0.out [] 0 p283 (by first | exact q283 | exact of_decide_eq_true (by first | (with_reducible assumption) | assumption) | (have e_ := (Kd.V_reads' HO0.out).1; omega))
                      obtain ⟨ua283_0, uc283_0, rfl, ul283_0, ge283_0⟩ := Kd.FK_slice_open hMe283
                      have hv283_0 := hcc283 0 _ rfl
                      rw [Nat.add_zero, show ((Kd.slice 3 (Kd.int .i64))).sz = 1 from rfl, Nat.mul_one] at hv283_0
                      replace hv283_0 := Option.some.inj (hv283_0.symm.trans hx283_0)
                      injection hv283_0 with hva_ hvn_ hvc_
                      rw [hva_] at ge283_0
                      rw [hvc_] at ul283_0
                      have HL283_0 := Aside0.mk (show Kd.V (Kd.int .i64) 3 _ w.heap.size _ _ (rd_L1 l0 0) from Kd.V_mk ul283_0 ge283_0)
                      clear hva_ hvn_ hvc_ ge283_0 ul283_0
                      clear hcc283 hce283
                      have qi283 : (0 < l0.length) = True := eq_true (by omega)
                      (try rw [show ((0 : Int)).toNat = 0 from rfl] at hx283_0)
                      (try rw [Addr.add_zero'] at hx283_0)
                      have HR283_0 := Aside0.mk hi283_0
                      have HC283_0 := Aside0.mk hl283_0
                      clear hi283_0 hl283_0
                      replace p283 := eq_true p283
                      replace q283 := eq_true q283
                      go_wp2
                      go_meet
                      case rel => exact ⟨_, (true), (by first | rfl | (simp; done) | (simp [*]; done)), H', ⟨by first | omega | exact Nat.le_refl _⟩, ⟨by (with_reducible repeat (first | apply Kd.V_alloc | apply Kd.V_drewN | apply Kd.V_drew)); exact HO0.out⟩, ⟨by repeat (first | (with_reducible first | exact HB.out | apply below_alloc | apply pw_below_drewN | apply below_drew1) | exact HB.out)⟩⟩
                    · rw [if_neg c19] at H
                      have c19b0 : decide (a5 < 0) = false := decide_eq_false c19
                      clear c19
                      have H' := Aside0.mk H
                      clear H
                      have p283 : 0 ≤ (0 : Int) := (by omega)
                      have q283 : 0 < (l0.length : Int) := of_decide_eq_true (by first | (with_reducible assumption) | assumption)
                      obtain ⟨ad283, A283_0, c283_0, e283, hx283_0, hl283_0, hi283_0⟩ := at_L1 (Kd.V_reads' HO0.out).2.2 0 p283 q283
                      cases e283
                      obtain ⟨ce283, hce283, hMe283, hcc283⟩ := Kd.V_get HO0.out [] 0 p283 (by first | exact q283 | exact of_decide_eq_true (by first | (with_reducible assumption) | assumption) | (have e_ := (Kd.V_reads' HO0.out).1; omega))
                      obtain ⟨ua283_0, uc283_0, rfl, ul283_0, ge283_0⟩ := Kd.FK_slice_open hMe283
                      have hv283_0 := hcc283 0 _ rfl
                      rw [Nat.add_zero, show ((Kd.slice 3 (Kd.int .i64))).sz = 1 from rfl, Nat.mul_one] at hv283_0
                      replace hv283_0 := Option.some.inj (hv283_0.symm.trans hx283_0)
                      injection hv283_0 with hva_ hvn_ hvc_
                      rw [hva_] at ge283_0
                      rw [hvc_] at ul283_0
                      have HL283_0 := Aside0.mk (show Kd.V (Kd.int .i64) 3 _ w.heap.size _ _ (rd_L1 l0 0) from Kd.V_mk ul283_0 ge283_0)
                      clear hva_ hvn_ hvc_ ge283_0 ul283_0
                      clear hcc283 hce283
                      have qi283 : (0 < l0.length) = True := eq_true (by omega)
                      (try rw [show ((0 : Int)).toNat = 0 from rfl] at hx283_0)
                      (try rw [Addr.add_zero'] at hx283_0)
                      have HR283_0 := Aside0.mk hi283_0
                      have HC283_0 := Aside0.mk hl283_0
                      clear hi283_0 hl283_0
                      replace p283 := eq_true p283
                      replace q283 := eq_true q283
                      go_wp2
                      go_meet
                      case rel => exact ⟨_, (decide (a5 > 1000)), (by first | rfl | (simp; done) | (simp [*]; done)), H', ⟨by first | omega | exact Nat.le_refl _⟩, ⟨by (with_reducible repeat (first | apply Kd.V_alloc | apply Kd.V_drewN | apply Kd.V_drew)); exact HO0.out⟩, ⟨by repeat (first | (with_reducible first | exact HB.out | apply below_alloc | apply pw_below_drewN | apply below_drew1) | exact HB.out)⟩⟩
              · rw [if_neg c16] at H
                exact absurd H (by simp)
    · replace c11 := Bool.eq_false_iff.mpr c11
      subst c11
      have H1 : (chargeparklaw30_BidsFurther.j0 k l0 l1 a2 a3 a4 a5 true true) = some r := by rw [if_neg (show ¬ (false = true) by decide)] at H; exact H
      clear H
      have H := H1
      clear H1
      have H' := Aside0.mk H
      clear H
      go_wp2
      go_meet
      case rel => exact ⟨_, (true), (by first | rfl | (simp; done) | (simp [*]; done)), H', ⟨by first | omega | exact Nat.le_refl _⟩, ⟨by (with_reducible repeat (first | apply Kd.V_alloc | apply Kd.V_drewN | apply Kd.V_drew)); exact HO0.out⟩, ⟨by repeat (first | (with_reducible first | exact HB.out | apply below_alloc | apply pw_below_drewN | apply below_drew1) | exact HB.out)⟩⟩
  case rest => as_aux_lemma =>
    clear HC9
    try clear c1
    try clear c2
    try clear p2
    try clear q2
    try clear hx2
    try clear qi2
    try clear c8
    try clear c9
    try clear c11
    try clear c12
    try clear c12b0
    try clear c12b1
    try clear c13
    try clear c13b0
    try clear c14
    try clear c14b0
    try clear c15
    try clear c15b0
    try clear c16
    try clear c16b0
    try clear c16b1
    try clear c17
    try clear c17b0
    try clear c18
    try clear c18b0
    try clear c19
    try clear c19b0
    try clear hx283_0
    try clear p283
    try clear q283
    obtain ⟨kq, x78_8, rfl, HA, HJ8, HO_0, HB⟩ := hcut
    cases kq with
    | zero => exact absurd HA.out (by simp [chargeparklaw30_BidsFurther.j0])
    | succ kj8 =>
      have H := HA.out
      clear HA
      simp only [chargeparklaw30_BidsFurther.j0] at H
      by_cases c20 : x78_8 = true
      · subst c20
        have H1 : (some true) = some r := by first | (rw [if_pos rfl] at H; exact H) | (rw [if_pos trivial] at H; exact H)
        clear H
        have H := H1
        clear H1
        obtain rfl := Option.some.inj H
        simp only [Option.some.injEq, Prod.mk.injEq] at H
        obtain ⟨rfl⟩ := H
        go_wp2
        go_ret
        exact ⟨by first | rfl | (simp [errW_none, errW_some] <;> rfl) | (simp [*, errW_none, errW_some] <;> rfl), by repeat (first | (with_reducible first | exact HB.out | apply below_alloc | apply pw_below_drewN | apply below_drew1) | exact HB.out)⟩
      · replace c20 := Bool.eq_false_iff.mpr c20
        subst c20
        have H1 : (if (wrap64 (a2 + 1)) = 0 then (none) else (chargeparklaw30_BidsFurther.l0 kj8 l0 l1 a2 a3 a4 a5 true (Int.tmod a4 (wrap64 (a2 + 1))) ([] : List (List Int)) ([] : List Bool) 0)) = some r := by rw [if_neg (show ¬ (false = true) by decide)] at H; exact H
        clear H
        have H := H1
        clear H1
        by_cases c21 : (wrap64 (a2 + 1)) = 0
        · rw [if_pos c21] at H
          exact absurd H (by simp)
        · rw [if_neg c21] at H
          have c21b0 : ((wrap64 (a2 + 1)) == 0) = false := beq_eq_false_iff_ne.mpr c21
          have c21b1 : ((wrap64 (a2 + 1)) != 0) = true := bne_iff_ne.mpr c21
          have H' := Aside0.mk H
          clear H
          go_wp2
          go_loopg [16, 17, 18] kj8 (fun kq v16 v17 v18 w' => ∃ (x16_2 : List (List Int)) (x17_2 : List Bool) (x18_2 : Int), v18 = .int .i64 x18_2 ∧ Aside0 (chargeparklaw30_BidsFurther.l0 kq l0 l1 a2 a3 a4 a5 true (Int.tmod a4 (wrap64 (a2 + 1))) x16_2 x17_2 x18_2 = some r) ∧ Aside0 (kq ≤ kj8) ∧ Aside0 (Kd.V (Kd.slice 3 (Kd.int .i64)) 33 w' w.heap.size (fun k_ => (P0_ k_ ∨ w.heap.size ≤ k_) ∧ some k_ ≠ (v16 : Value).ownBlock ∧ some k_ ≠ (v17 : Value).ownBlock) (.slice A0 l0.length c0) l0) ∧ Aside0 (Kd.N (Kd.slice 3 (Kd.int .i64)) 33 w' w.heap.size (fun k_ => (P0_ k_ ∨ w.heap.size ≤ k_) ∧ some k_ ≠ (v17 : Value).ownBlock) v16 x16_2) ∧ Aside0 (Kd.R Kd.bool 4 w' w.heap.size (fun k_ => (w.heap.size ≤ k_)) v17 x17_2) ∧ Aside0 (Below w.heap.size w w'))
          case atStart => exact ⟨(([] : List (List Int))), (([] : List Bool)), (0), (by first | rfl | (simp; done) | (simp [*]; done)), H', ⟨Nat.le_refl _⟩, ⟨by (with_reducible repeat (first | apply Kd.V_alloc | apply Kd.V_drewN | apply Kd.V_drew)); exact Kd.V_mono HO_0.out (fun _ hk => ⟨hk, ⟨(by simp [Value.ownBlock]), (by simp [Value.ownBlock])⟩⟩)⟩, ⟨by first | exact Kd.S_nil _ _ _ _ _ | exact Kd.N_nil _ _ _ _ _ | exact Kd.V_nil _ _ _ _ _ | exact Kd.Q_nil _ _ _ _ _ | exact Kd.R_nil _ _ _ _ _⟩, ⟨by first | exact Kd.R_nil _ _ _ _ _ | exact Kd.N_nil _ _ _ _ _ | exact Kd.V_nil _ _ _ _ _ | exact Kd.Q_nil _ _ _ _ _ | exact Kd.S_nil _ _ _ _ _⟩, ⟨by repeat (first | (with_reducible first | exact HB.out | apply below_alloc | apply pw_below_drewN | apply below_drew1) | exact HB.out)⟩⟩
          case round => as_aux_lemma =>
            clear H'
            try clear c1
            try clear c2
            try clear p2
            try clear q2
            try clear hx2
            try clear qi2
            try clear p6
            try clear c8
            try clear c9
            try clear c11
            try clear c12
            try clear c12b0
            try clear c12b1
            try clear c13
            try clear c13b0
            try clear c14
            try clear c14b0
            try clear c15
            try clear c15b0
            try clear c16
            try clear c16b0
            try clear c16b1
            try clear c17
            try clear c17b0
            try clear c18
            try clear c18b0
            try clear c19
            try clear c19b0
            try clear c20
            try clear c21
            try clear c21b0
            try clear c21b1
            try clear hx283_0
            try clear p2
            try clear p283
            try clear q2
            try clear q283
            obtain ⟨x16_2, x17_2, x18_2, rfl, HA, HK2, HO_0, HO_16, HO_17, HB⟩ := hrel
            cases gk with
            | zero => exact absurd HA.out (by simp [chargeparklaw30_BidsFurther.l0])
            | succ k2 =>
              have H := HA.out
              clear HA
              simp only [chargeparklaw30_BidsFurther.l0] at H
              by_cases c22 : x18_2 ≤ (l0.length : Int)
              · rw [if_pos c22] at H
                have c22b0 : decide (x18_2 ≤ (l0.length : Int)) = true := decide_eq_true c22
                clear c22
                by_cases c23 : x18_2 = (Int.tmod a4 (wrap64 (a2 + 1)))
                · rw [if_pos c23] at H
                  have c23b0 : (x18_2 == (Int.tmod a4 (wrap64 (a2 + 1)))) = true := beq_iff_eq.mpr c23
                  have c23b1 : (x18_2 != (Int.tmod a4 (wrap64 (a2 + 1)))) = false := bne_eq_false_iff_eq.mpr c23
                  clear c23
                  have H' := Aside0.mk H
                  clear H
                  go_wp2
                  go_loopg [19, 20] k2 (fun kq v19 v20 w' => ∃ (x19_3 : List Int) (x20_3 : Int), v20 = .int .i64 x20_3 ∧ Aside0 (chargeparklaw30_BidsFurther.l1 kq l0 l1 a2 a3 a4 a5 true (Int.tmod a4 (wrap64 (a2 + 1))) x16_2 x17_2 x18_2 x19_3 x20_3 = some r) ∧ Aside0 (kq ≤ k2) ∧ Aside0 (Kd.V (Kd.slice 3 (Kd.int .i64)) 33 w' w.heap.size (fun k_ => (P0_ k_ ∨ w.heap.size ≤ k_) ∧ some k_ ≠ (u16 : Value).ownBlock ∧ some k_ ≠ (u17 : Value).ownBlock ∧ some k_ ≠ (v19 : Value).ownBlock) (.slice A0 l0.length c0) l0) ∧ Aside0 (Kd.N (Kd.slice 3 (Kd.int .i64)) 33 w' w.heap.size (fun k_ => (P0_ k_ ∨ w.heap.size ≤ k_) ∧ some k_ ≠ (u17 : Value).ownBlock ∧ some k_ ≠ (v19 : Value).ownBlock) u16 x16_2) ∧ Aside0 (Kd.R Kd.bool 4 w' w.heap.size (fun k_ => (w.heap.size ≤ k_)) u17 x17_2) ∧ Aside0 (Kd.R (Kd.int .i64) 3 w' w.heap.size (fun k_ => (w.heap.size ≤ k_)) v19 x19_3) ∧ Aside0 (Below w.heap.size w w'))
                  case atStart => exact ⟨(([] : List Int)), (0), (by first | rfl | (simp; done) | (simp [*]; done)), H', ⟨Nat.le_refl _⟩, ⟨by (with_reducible repeat (first | apply Kd.V_alloc | apply Kd.V_drewN | apply Kd.V_drew)); exact Kd.V_mono HO_0.out (fun _ hk => ⟨hk.1, ⟨hk.2.1, ⟨hk.2.2, (by simp [Value.ownBlock])⟩⟩⟩)⟩, ⟨by (with_reducible repeat (first | apply Kd.N_alloc | apply Kd.N_drewN | apply Kd.N_drew)); exact Kd.N_mono HO_16.out (fun _ hk => ⟨hk.1, ⟨hk.2, (by simp [Value.ownBlock])⟩⟩)⟩, ⟨by (with_reducible repeat (first | apply Kd.R_alloc | apply Kd.R_drewN | apply Kd.R_drew)); exact HO_17.out⟩, ⟨by first | exact Kd.R_nil _ _ _ _ _ | exact Kd.N_nil _ _ _ _ _ | exact Kd.V_nil _ _ _ _ _ | exact Kd.Q_nil _ _ _ _ _ | exact Kd.S_nil _ _ _ _ _⟩, ⟨by repeat (first | (with_reducible first | exact HB.out | apply below_alloc | apply pw_below_drewN | apply below_drew1) | exact HB.out)⟩⟩
                  case round => as_aux_lemma =>
                    clear H'
                    try clear c1
                    try clear c2
                    try clear p2
                    try clear q2
                    try clear hx2
                    try clear qi2
                    try clear p6
                    try clear c8
                    try clear c9
                    try clear c11
                    try clear c12
                    try clear c12b0
                    try clear c12b1
                    try clear c13
                    try clear c13b0
                    try clear c14
                    try clear c14b0
                    try clear c15
                    try clear c15b0
                    try clear c16
                    try clear c16b0
                    try clear c16b1
                    try clear c17
                    try clear c17b0
                    try clear c18
                    try clear c18b0
                    try clear c19
                    try clear c19b0
                    try clear c20
                    try clear c21
                    try clear c21b0
                    try clear c21b1
                    try clear c22
                    try clear c22b0
                    try clear c23
                    try clear c23b0
                    try clear c23b1
                    try clear hx283_0
                    try clear p2
                    try clear p283
                    try clear p6
                    try clear q2
                    try clear q283
                    obtain ⟨x19_3, x20_3, rfl, HA, HK3, HO_0, HO_16, HO_17, HO_19, HB⟩ := hrel
                    cases gk with
                    | zero => exact absurd HA.out (by simp [chargeparklaw30_BidsFurther.l1])
                    | succ k3 =>
                      have H := HA.out
                      clear HA
                      simp only [chargeparklaw30_BidsFurther.l1] at H
                      by_cases c24 : 0 < (l0.length : Int)
                      · rw [if_pos c24] at H
                        have c24b0 : decide (0 < (l0.length : Int)) = true := decide_eq_true c24
                        have c24b1 : decide (0 < l0.length) = true := decide_eq_true (by omega)
                        clear c24
                        by_cases c25 : x20_3 < ((rd_L1 l0 0).length : Int)
                        · rw [if_pos c25] at H
                          have c25b0 : decide (x20_3 < ((rd_L1 l0 0).length : Int)) = true := decide_eq_true c25
                          clear c25
                          by_cases c26 : x19_3.length < 17592186044416
                          · rw [if_pos c26] at H
                            have LMc26 := Aside0.mk c26
                            clear c26
                            obtain ⟨y285, hy285⟩ : ∃ y_ : List Int, y_ = (x19_3 ++ [a5]) := ⟨_, rfl⟩
                            replace H : (chargeparklaw30_BidsFurther.l1 k3 l0 l1 a2 a3 a4 a5 true (Int.tmod a4 (wrap64 (a2 + 1))) x16_2 x17_2 x18_2 y285 (wrap64 (x20_3 + 1))) = some r := by first | (rw [hy285]; with_reducible exact H) | (have H2_ := (Option.bind_some _ _).symm.trans H; rw [hy285]; with_reducible exact H2_) | (have H2_ := (Option.bind_some _ _).symm.trans H; with_reducible exact H2_) | with_reducible exact H | (rw [hy285]; exact H) | exact H
                            have Ny285 := Aside0.mk hy285
                            clear hy285
                            have H' := Aside0.mk H
                            clear H
                            have p284 : 0 ≤ (0 : Int) := (by omega)
                            have q284 : 0 < (l0.length : Int) := of_decide_eq_true (by first | (with_reducible assumption) | assumption)
                            obtain ⟨ad284, A284_0, c284_0, e284, hx284_0, hl284_0, hi284_0⟩ := at_L1 (Kd.V_reads' HO_0.out).2.2 0 p284 q284
                            cases e284
                            obtain ⟨ce284, hce284, hMe284, hcc284⟩ := Kd.V_get HO_0.out [] 0 p284 (by first | exact q284 | exact of_decide_eq_true (by first | (with_reducible assumption) | assumption) | (have e_ := (Kd.V_reads' HO_0.out).1; omega))
                            obtain ⟨ua284_0, uc284_0, rfl, ul284_0, ge284_0⟩ := Kd.FK_slice_open hMe284
                            have hv284_0 := hcc284 0 _ rfl
                            rw [Nat.add_zero, show ((Kd.slice 3 (Kd.int .i64))).sz = 1 from rfl, Nat.mul_one] at hv284_0
                            replace hv284_0 := Option.some.inj (hv284_0.symm.trans hx284_0)
                            injection hv284_0 with hva_ hvn_ hvc_
                            rw [hva_] at ge284_0
                            rw [hvc_] at ul284_0
                            have HL284_0 := Aside0.mk (show Kd.V (Kd.int .i64) 3 _ w.heap.size _ _ (rd_L1 l0 0) from Kd.V_mk ul284_0 ge284_0)
                            clear hva_ hvn_ hvc_ ge284_0 ul284_0
                            clear hcc284 hce284
                            have qi284 : (0 < l0.length) = True := eq_true (by omega)
                            (try rw [show ((0 : Int)).toNat = 0 from rfl] at hx284_0)
                            (try rw [Addr.add_zero'] at hx284_0)
                            have HR284_0 := Aside0.mk hi284_0
                            have HC284_0 := Aside0.mk hl284_0
                            clear hi284_0 hl284_0
                            replace p284 := eq_true p284
                            replace q284 := eq_true q284
                            go_wp2_with (first | ((with_reducible refine gate_builtin (b := .append) (xs := #[.tmp 101, .tmp 103]) rfl ?_); (try (refine gate_guard (by rfl) ?_; dsimp only)); at_builtin; refine Kd.R_append (Kd.int .i64) (w0 := w) w.heap.size rfl (.tmp 101) (.tmp 103) 33 3 (.int .i64 0) 8 rfl Try.underlying33 info3 rfl (by decide) (by omega) u19 x19_3 a5 [.int .i64 a5] (fun k_ => (w.heap.size ≤ k_)) (fun _ => False) rfl rfl ?aP (fun _ hk => hk.elim) ?aF ?aO ?aB ?aS ?aL ?_; (case aP => exact rfl); (case aB => exact (by repeat (first | (with_reducible first | exact HB.out | apply below_alloc | apply pw_below_drewN | apply below_drew1) | exact HB.out))); (case aF => exact (fun k_ hk => (Nat.le_trans (below_size (by repeat (first | (with_reducible first | exact HB.out | apply below_alloc | apply pw_below_drewN | apply below_drew1) | exact HB.out))) hk))); (case aO => exact (by (with_reducible repeat (first | apply Kd.R_alloc | apply Kd.R_drewN | apply Kd.R_drew)); exact HO_19.out)); (case aS => exact (below_size (by repeat (first | (with_reducible first | exact HB.out | apply below_alloc | apply pw_below_drewN | apply below_drew1) | exact HB.out)))); (case aL => have := LMc26.out; omega); intro v286 w27 ho hb hg hat; rw [← Ny285.out] at ho; have n0_ := Aside0.mk (Kd.V_afterv (ok := (fun k_ => (P0_ k_ ∨ w.heap.size ≤ k_) ∧ some k_ ≠ (u16 : Value).ownBlock ∧ some k_ ≠ (u17 : Value).ownBlock)) (by (with_reducible repeat (first | apply Kd.V_alloc | apply Kd.V_drewN | apply Kd.V_drew)); exact Kd.V_mono HO_0.out (fun _ hk => ⟨⟨hk.1, ⟨hk.2.1, hk.2.2.1⟩⟩, hk.2.2.2⟩)) hg hat); have n1_ := Aside0.mk (Kd.N_afterv (ok := (fun k_ => (P0_ k_ ∨ w.heap.size ≤ k_) ∧ some k_ ≠ (u17 : Value).ownBlock)) (by (with_reducible repeat (first | apply Kd.N_alloc | apply Kd.N_drewN | apply Kd.N_drew)); exact Kd.N_mono HO_16.out (fun _ hk => ⟨⟨hk.1, hk.2.1⟩, hk.2.2⟩)) hg hat); have n2_ := Aside0.mk (Kd.R_over' (by (with_reducible repeat (first | apply Kd.R_alloc | apply Kd.R_drewN | apply Kd.R_drew)); exact HO_17.out) (Kd.R_typed (by (with_reducible repeat (first | apply Kd.R_alloc | apply Kd.R_drewN | apply Kd.R_drew)); exact HO_19.out)) (by decide) hg); have n3_ := Aside0.mk (Kd.V_afterv (ok := (fun k_ => (P0_ k_ ∨ w.heap.size ≤ k_) ∧ some k_ ≠ (u16 : Value).ownBlock ∧ some k_ ≠ (u17 : Value).ownBlock)) (by (with_reducible repeat (first | apply Kd.V_alloc | apply Kd.V_drewN | apply Kd.V_drew)); exact Kd.V_mono HL284_0.out (fun _ hk => ⟨⟨hk.1, ⟨hk.2.1, hk.2.2.1⟩⟩, hk.2.2.2⟩)) hg hat); have n4_ := Aside0.mk (hb); have n5_ := Aside0.mk (ho); clear HO_0; clear HO_16; clear HO_17; clear HL284_0; clear HB; clear HO_19; have HO_0 := n0_; have HO_16 := n1_; have HO_17 := n2_; have HL284_0 := n3_; have HB := n4_; have HO287 := n5_; clear n0_ n1_ n2_ n3_ n4_ n5_; clear ho hb hg hat))
                            go_roundg k3
                            case measure => have := HJ8.out; have := HK2.out; have := HK3.out; omega
                            case rel => exact ⟨(y285), (wrap64 (x20_3 + 1)), (by first | rfl | (simp; done) | (simp [*]; done)), H', ⟨by have := HJ8.out; have := HK2.out; have := HK3.out; omega⟩, ⟨by (with_reducible repeat (first | apply Kd.V_alloc | apply Kd.V_drewN | apply Kd.V_drew)); exact Kd.V_mono HO_0.out (fun _ hk => ⟨hk.1.1, ⟨hk.1.2.1, ⟨hk.1.2.2, hk.2⟩⟩⟩)⟩, ⟨by (with_reducible repeat (first | apply Kd.N_alloc | apply Kd.N_drewN | apply Kd.N_drew)); exact Kd.N_mono HO_16.out (fun _ hk => ⟨hk.1.1, ⟨hk.1.2, hk.2⟩⟩)⟩, ⟨by (with_reducible repeat (first | apply Kd.R_alloc | apply Kd.R_drewN | apply Kd.R_drew)); exact HO_17.out⟩, ⟨by (with_reducible repeat (first | apply Kd.R_alloc | apply Kd.R_drewN | apply Kd.R_drew)); exact HO287.out⟩, ⟨by repeat (first | (with_reducible first | exact HB.out | apply below_alloc | apply pw_below_drewN | apply below_drew1) | exact HB.out)⟩⟩
                          · rw [if_neg c26] at H
                            exact absurd H (by simp)
                        · rw [if_neg c25] at H
                          have c25b0 : decide (x20_3 < ((rd_L1 l0 0).length : Int)) = false := decide_eq_false c25
                          clear c25
                          by_cases c28 : x16_2.length < 5864062014805
                          · rw [if_pos c28] at H
                            have LMc28 := Aside0.mk c28
                            clear c28
                            obtain ⟨y288, hy288⟩ : ∃ y_ : List (List Int), y_ = (x16_2 ++ [x19_3]) := ⟨_, rfl⟩
                            replace H : (if x17_2.length < 140737488355328 then ((some (x17_2 ++ [true] : List Bool)).bind fun y291 => (if x18_2 < (l0.length : Int) then (if 0 ≤ x18_2 then (if y288.length < 5864062014805 then (if x18_2 < (l1.length : Int) then (if y291.length < 140737488355328 then (chargeparklaw30_BidsFurther.l0 k3 l0 l1 a2 a3 a4 a5 true (Int.tmod a4 (wrap64 (a2 + 1))) (y288 ++ [rd_L1 l0 x18_2]) (y291 ++ [rdOf false l1 x18_2]) (wrap64 (x18_2 + 1))) else (none)) else (none)) else (none)) else (none)) else (chargeparklaw30_BidsFurther.l0 k3 l0 l1 a2 a3 a4 a5 true (Int.tmod a4 (wrap64 (a2 + 1))) y288 y291 (wrap64 (x18_2 + 1))))) else (none)) = some r := by first | (rw [hy288]; with_reducible exact H) | (have H2_ := (Option.bind_some _ _).symm.trans H; rw [hy288]; with_reducible exact H2_) | (have H2_ := (Option.bind_some _ _).symm.trans H; with_reducible exact H2_) | with_reducible exact H | (rw [hy288]; exact H) | exact H
                            have Ny288 := Aside0.mk hy288
                            clear hy288
                            by_cases c29 : x17_2.length < 140737488355328
                            · rw [if_pos c29] at H
                              have LMc29 := Aside0.mk c29
                              clear c29
                              obtain ⟨y291, hy291⟩ : ∃ y_ : List Bool, y_ = (x17_2 ++ [true]) := ⟨_, rfl⟩
                              replace H : (if x18_2 < (l0.length : Int) then (if 0 ≤ x18_2 then (if y288.length < 5864062014805 then (if x18_2 < (l1.length : Int) then (if y291.length < 140737488355328 then (chargeparklaw30_BidsFurther.l0 k3 l0 l1 a2 a3 a4 a5 true (Int.tmod a4 (wrap64 (a2 + 1))) (y288 ++ [rd_L1 l0 x18_2]) (y291 ++ [rdOf false l1 x18_2]) (wrap64 (x18_2 + 1))) else (none)) else (none)) else (none)) else (none)) else (chargeparklaw30_BidsFurther.l0 k3 l0 l1 a2 a3 a4 a5 true (Int.tmod a4 (wrap64 (a2 + 1))) y288 y291 (wrap64 (x18_2 + 1)))) = some r := by first | (rw [hy291]; with_reducible exact H) | (have H2_ := (Option.bind_some _ _).symm.trans H; rw [hy291]; with_reducible exact H2_) | (have H2_ := (Option.bind_some _ _).symm.trans H; with_reducible exact H2_) | with_reducible exact H | (rw [hy291]; exact H) | exact H
                              have Ny291 := Aside0.mk hy291
                              clear hy291
                              by_cases c30 : x18_2 < (l0.length : Int)
                              · rw [if_pos c30] at H
                                have c30b0 : decide (x18_2 < (l0.length : Int)) = true := decide_eq_true c30
                                clear c30
                                by_cases c31 : 0 ≤ x18_2
                                · rw [if_pos c31] at H
                                  have c31b0 : decide (0 ≤ x18_2) = true := decide_eq_true c31
                                  clear c31
                                  by_cases c32 : y288.length < 5864062014805
                                  · rw [if_pos c32] at H
                                    have LMc32 := Aside0.mk c32
                                    clear c32
                                    obtain ⟨y295, hy295⟩ : ∃ y_ : List (List Int), y_ = (y288 ++ [rd_L1 l0 x18_2]) := ⟨_, rfl⟩
                                    replace H : (if x18_2 < (l1.length : Int) then (if y291.length < 140737488355328 then (chargeparklaw30_BidsFurther.l0 k3 l0 l1 a2 a3 a4 a5 true (Int.tmod a4 (wrap64 (a2 + 1))) y295 (y291 ++ [rdOf false l1 x18_2]) (wrap64 (x18_2 + 1))) else (none)) else (none)) = some r := by first | (rw [hy295]; with_reducible exact H) | (have H2_ := (Option.bind_some _ _).symm.trans H; rw [hy295]; with_reducible exact H2_) | (have H2_ := (Option.bind_some _ _).symm.trans H; with_reducible exact H2_) | with_reducible exact H | (rw [hy295]; exact H) | exact H
                                    have Ny295 := Aside0.mk hy295
                                    clear hy295
                                    by_cases c33 : x18_2 < (l1.length : Int)
                                    · rw [if_pos c33] at H
                                      have c33b0 : decide (x18_2 < (l1.length : Int)) = true := decide_eq_true c33
                                      clear c33
                                      by_cases c34 : y291.length < 140737488355328
                                      · rw [if_pos c34] at H
                                        have LMc34 := Aside0.mk c34
                                        clear c34
                                        obtain ⟨y299, hy299⟩ : ∃ y_ : List Bool, y_ = (y291 ++ [rdOf false l1 x18_2]) := ⟨_, rfl⟩
                                        replace H : (chargeparklaw30_BidsFurther.l0 k3 l0 l1 a2 a3 a4 a5 true (Int.tmod a4 (wrap64 (a2 + 1))) y295 y299 (wrap64 (x18_2 + 1))) = some r := by first | (rw [hy299]; with_reducible exact H) | (have H2_ := (Option.bind_some _ _).symm.trans H; rw [hy299]; with_reducible exact H2_) | (have H2_ := (Option.bind_some _ _).symm.trans H; with_reducible exact H2_) | with_reducible exact H | (rw [hy299]; exact H) | exact H
                                        have Ny299 := Aside0.mk hy299
                                        clear hy299
                                        have H' := Aside0.mk H
                                        clear H
                                        have p284 : 0 ≤ (0 : Int) := (by omega)
                                        have q284 : 0 < (l0.length : Int) := of_decide_eq_true (by first | (with_reducible assumption) | assumption)
                                        obtain ⟨ad284, A284_0, c284_0, e284, hx284_0, hl284_0, hi284_0⟩ := at_L1 (Kd.V_reads' HO_0.out).2.2 0 p284 q284
                                        cases e284
                                        obtain ⟨ce284, hce284, hMe284, hcc284⟩ := Kd.V_get HO_0.out [] 0 p284 (by first | exact q284 | exact of_decide_eq_true (by first | (with_reducible assumption) | assumption) | (have e_ := (Kd.V_reads' HO_0.out).1; omega))
                                        obtain ⟨ua284_0, uc284_0, rfl, ul284_0, ge284_0⟩ := Kd.FK_slice_open hMe284
                                        have hv284_0 := hcc284 0 _ rfl
                                        rw [Nat.add_zero, show ((Kd.slice 3 (Kd.int .i64))).sz = 1 from rfl, Nat.mul_one] at hv284_0
                                        replace hv284_0 := Option.some.inj (hv284_0.symm.trans hx284_0)
                                        injection hv284_0 with hva_ hvn_ hvc_
                                        rw [hva_] at ge284_0
                                        rw [hvc_] at ul284_0
                                        have HL284_0 := Aside0.mk (show Kd.V (Kd.int .i64) 3 _ w.heap.size _ _ (rd_L1 l0 0) from Kd.V_mk ul284_0 ge284_0)
                                        clear hva_ hvn_ hvc_ ge284_0 ul284_0
                                        clear hcc284 hce284
                                        have qi284 : (0 < l0.length) = True := eq_true (by omega)
                                        (try rw [show ((0 : Int)).toNat = 0 from rfl] at hx284_0)
                                        (try rw [Addr.add_zero'] at hx284_0)
                                        have HR284_0 := Aside0.mk hi284_0
                                        have HC284_0 := Aside0.mk hl284_0
                                        clear hi284_0 hl284_0
                                        replace p284 := eq_true p284
                                        replace q284 := eq_true q284
                                        obtain ⟨Ao36, co36, eo36⟩ := Kd.R_slice HO_19.out
                                        subst eo36
                                        go_wp2_with (first | ((with_reducible refine gate_builtin (b := .append) (xs := #[.tmp 105, .tmp 107]) rfl ?_); (try (refine gate_guard (by rfl) ?_; dsimp only)); at_builtin; refine Kd.N_append (Kd.slice 3 (Kd.int .i64)) (w0 := w) w.heap.size rfl (.tmp 105) (.tmp 107) 22 33 (.slice none 0 0) 24 rfl Try.underlying22 info33 rfl (by decide) (by omega) u16 x16_2 x19_3 [.slice Ao36 x19_3.length co36] (fun k_ => (P0_ k_ ∨ w.heap.size ≤ k_) ∧ some k_ ≠ (u17 : Value).ownBlock) (fun k_ => ((fun k_ => (P0_ k_ ∨ w.heap.size ≤ k_) ∧ some k_ ≠ (u17 : Value).ownBlock)) k_ ∧ some k_ ≠ (u16 : Value).ownBlock) rfl rfl ?aP (fun _ hk => hk) ?aF ?aO ?aB ?aS ?aL ?_; (case aP => exact (Kd.FK_slice_mk (Kd.R_reads' (Kd.R_mono (ok' := (fun k_ => ((fun k_ => (P0_ k_ ∨ w.heap.size ≤ k_) ∧ some k_ ≠ (u17 : Value).ownBlock)) k_ ∧ some k_ ≠ (u16 : Value).ownBlock)) (Kd.R_apart' (Kd.R_apart' (HO_19.out) (Kd.R_typed HO_17.out) (by decide)) (Kd.N_typed HO_16.out) (by decide)) (fun k_ hk => ⟨⟨(.inr (hk.1.1)), hk.1.2⟩, hk.2⟩))).2.1 (Kd.R_F (Kd.R_mono (ok' := (fun k_ => ((fun k_ => (P0_ k_ ∨ w.heap.size ≤ k_) ∧ some k_ ≠ (u17 : Value).ownBlock)) k_ ∧ some k_ ≠ (u16 : Value).ownBlock)) (Kd.R_apart' (Kd.R_apart' (HO_19.out) (Kd.R_typed HO_17.out) (by decide)) (Kd.N_typed HO_16.out) (by decide)) (fun k_ hk => ⟨⟨(.inr (hk.1.1)), hk.1.2⟩, hk.2⟩))))); (case aB => exact (by repeat (first | (with_reducible first | exact HB.out | apply below_alloc | apply pw_below_drewN | apply below_drew1) | exact HB.out))); (case aF => exact (fun k_ hk => ⟨(.inr (Nat.le_trans (below_size (by repeat (first | (with_reducible first | exact HB.out | apply below_alloc | apply pw_below_drewN | apply below_drew1) | exact HB.out))) hk)), Kd.fresh' (Kd.R_lt (by (with_reducible repeat (first | apply Kd.R_alloc | apply Kd.R_drewN | apply Kd.R_drew)); exact HO_17.out)) k_ hk⟩)); (case aO => exact (by (with_reducible repeat (first | apply Kd.N_alloc | apply Kd.N_drewN | apply Kd.N_drew)); exact Kd.N_mono HO_16.out (fun _ hk => ⟨hk.1, hk.2.1⟩))); (case aS => exact (below_size (by repeat (first | (with_reducible first | exact HB.out | apply below_alloc | apply pw_below_drewN | apply below_drew1) | exact HB.out)))); (case aL => have := LMc28.out; omega); intro v289 w35 ho hb hg hat; rw [← Ny288.out] at ho; have n0_ := Aside0.mk (Kd.V_afterv (ok := (fun k_ => (P0_ k_ ∨ w.heap.size ≤ k_) ∧ some k_ ≠ (u17 : Value).ownBlock ∧ some k_ ≠ (.slice Ao36 x19_3.length co36 : Value).ownBlock)) (by (with_reducible repeat (first | apply Kd.V_alloc | apply Kd.V_drewN | apply Kd.V_drew)); exact Kd.V_mono HO_0.out (fun _ hk => ⟨⟨hk.1, ⟨hk.2.2.1, hk.2.2.2⟩⟩, hk.2.1⟩)) hg hat); have n1_ := Aside0.mk (Kd.R_over' (by (with_reducible repeat (first | apply Kd.R_alloc | apply Kd.R_drewN | apply Kd.R_drew)); exact HO_17.out) (Kd.N_typed (by (with_reducible repeat (first | apply Kd.N_alloc | apply Kd.N_drewN | apply Kd.N_drew)); exact HO_16.out)) (by decide) hg); have n2_ := Aside0.mk (Kd.V_afterv (ok := (fun k_ => (P0_ k_ ∨ w.heap.size ≤ k_) ∧ some k_ ≠ (u17 : Value).ownBlock ∧ some k_ ≠ (.slice Ao36 x19_3.length co36 : Value).ownBlock)) (by (with_reducible repeat (first | apply Kd.V_alloc | apply Kd.V_drewN | apply Kd.V_drew)); exact Kd.V_mono HL284_0.out (fun _ hk => ⟨⟨hk.1, ⟨hk.2.2.1, hk.2.2.2⟩⟩, hk.2.1⟩)) hg hat); have n3_ := Aside0.mk (hb); have n4_ := Aside0.mk (ho); clear HO_0; clear HO_17; clear HL284_0; clear HB; clear HO_16; clear HO_19; have HO_0 := n0_; have HO_17 := n1_; have HL284_0 := n2_; have HB := n3_; have HO290 := n4_; clear n0_ n1_ n2_ n3_ n4_; clear ho hb hg hat) | ((with_reducible refine gate_builtin (b := .append) (xs := #[.tmp 109, .tmp 110]) rfl ?_); (try (refine gate_guard (by rfl) ?_; dsimp only)); at_builtin; refine Kd.R_append Kd.bool (w0 := w) w.heap.size rfl (.tmp 109) (.tmp 110) 23 4 (.bool false) 1 rfl Try.underlying23 info4 rfl (by decide) (by omega) u17 x17_2 true [.bool true] (fun k_ => (w.heap.size ≤ k_)) (fun _ => False) rfl rfl ?aP (fun _ hk => hk.elim) ?aF ?aO ?aB ?aS ?aL ?_; (case aP => exact rfl); (case aB => exact (by repeat (first | (with_reducible first | exact HB.out | apply below_alloc | apply pw_below_drewN | apply below_drew1) | exact HB.out))); (case aF => exact (fun k_ hk => (Nat.le_trans (below_size (by repeat (first | (with_reducible first | exact HB.out | apply below_alloc | apply pw_below_drewN | apply below_drew1) | exact HB.out))) hk))); (case aO => exact (by (with_reducible repeat (first | apply Kd.R_alloc | apply Kd.R_drewN | apply Kd.R_drew)); exact HO_17.out)); (case aS => exact (below_size (by repeat (first | (with_reducible first | exact HB.out | apply below_alloc | apply pw_below_drewN | apply below_drew1) | exact HB.out)))); (case aL => have := LMc29.out; omega); intro v292 w37 ho hb hg hat; rw [← Ny291.out] at ho; have n0_ := Aside0.mk (Kd.V_afterv (ok := (fun k_ => (P0_ k_ ∨ w.heap.size ≤ k_) ∧ some k_ ≠ (v289 : Value).ownBlock)) (by (with_reducible repeat (first | apply Kd.V_alloc | apply Kd.V_drewN | apply Kd.V_drew)); exact Kd.V_mono HO_0.out (fun _ hk => ⟨⟨hk.1.1, hk.2⟩, hk.1.2.1⟩)) hg hat); have n1_ := Aside0.mk (Kd.V_afterv (ok := (fun k_ => (P0_ k_ ∨ w.heap.size ≤ k_) ∧ some k_ ≠ (v289 : Value).ownBlock)) (by (with_reducible repeat (first | apply Kd.V_alloc | apply Kd.V_drewN | apply Kd.V_drew)); exact Kd.V_mono HL284_0.out (fun _ hk => ⟨⟨hk.1.1, hk.2⟩, hk.1.2.1⟩)) hg hat); have n2_ := Aside0.mk (Kd.N_afterv (ok := (fun k_ => (P0_ k_ ∨ w.heap.size ≤ k_))) (by (with_reducible repeat (first | apply Kd.N_alloc | apply Kd.N_drewN | apply Kd.N_drew)); exact HO290.out) hg hat); have n3_ := Aside0.mk (hb); have n4_ := Aside0.mk (ho); clear HO_0; clear HL284_0; clear HO290; clear HB; clear HO_17; have HO_0 := n0_; have HL284_0 := n1_; have HO290 := n2_; have HB := n3_; have HO293 := n4_; clear n0_ n1_ n2_ n3_ n4_; clear ho hb hg hat; have p294 : 0 ≤ (x18_2 : Int) := of_decide_eq_true (by first | (with_reducible assumption) | assumption); have q294 : x18_2 < (l0.length : Int) := of_decide_eq_true (by first | (with_reducible assumption) | assumption); obtain ⟨ad294, A294_0, c294_0, e294, hx294_0, hl294_0, hi294_0⟩ := at_L1 (Kd.V_reads' HO_0.out).2.2 x18_2 p294 q294; obtain rfl : ad284 = ad294 := (by injection e294); obtain ⟨ce294, hce294, hMe294, hcc294⟩ := Kd.V_get HO_0.out [] x18_2 p294 (by first | exact q294 | exact of_decide_eq_true (by first | (with_reducible assumption) | assumption) | (have e_ := (Kd.V_reads' HO_0.out).1; omega)); obtain ⟨ua294_0, uc294_0, rfl, ul294_0, ge294_0⟩ := Kd.FK_slice_open hMe294; have hv294_0 := hcc294 0 _ rfl; rw [Nat.add_zero, show ((Kd.slice 3 (Kd.int .i64))).sz = 1 from rfl, Nat.mul_one] at hv294_0; replace hv294_0 := Option.some.inj (hv294_0.symm.trans hx294_0); injection hv294_0 with hva_ hvn_ hvc_; rw [hva_] at ge294_0; rw [hvc_] at ul294_0; have HL294_0 := Aside0.mk (show Kd.V (Kd.int .i64) 3 _ w.heap.size _ _ (rd_L1 l0 x18_2) from Kd.V_mk ul294_0 ge294_0); clear hva_ hvn_ hvc_ ge294_0 ul294_0; clear hcc294 hce294; have HR294_0 := Aside0.mk hi294_0; have HC294_0 := Aside0.mk hl294_0; clear hi294_0 hl294_0; replace p294 := eq_true p294; replace q294 := eq_true q294) | ((with_reducible refine gate_builtin (b := .append) (xs := #[.tmp 116, .tmp 121]) rfl ?_); (try (refine gate_guard (by rfl) ?_; dsimp only)); at_builtin; refine Kd.N_append (Kd.slice 3 (Kd.int .i64)) (w0 := w) w.heap.size rfl (.tmp 116) (.tmp 121) 22 33 (.slice none 0 0) 24 rfl Try.underlying22 info33 rfl (by decide) (by omega) v289 y288 (rd_L1 l0 x18_2) [.slice A294_0 (rd_L1 l0 x18_2).length c294_0] (fun k_ => (P0_ k_ ∨ w.heap.size ≤ k_) ∧ some k_ ≠ (v292 : Value).ownBlock) (fun k_ => ((fun k_ => (P0_ k_ ∨ w.heap.size ≤ k_) ∧ some k_ ≠ (v292 : Value).ownBlock)) k_ ∧ some k_ ≠ (v289 : Value).ownBlock) rfl rfl ?aP (fun _ hk => hk) ?aF ?aO ?aB ?aS ?aL ?_; (case aP => exact (Kd.FK_slice_mk (Kd.V_reads' (Kd.V_mono (ok' := (fun k_ => ((fun k_ => (P0_ k_ ∨ w.heap.size ≤ k_) ∧ some k_ ≠ (v292 : Value).ownBlock)) k_ ∧ some k_ ≠ (v289 : Value).ownBlock)) (HL294_0.out) (fun k_ hk => ⟨⟨hk.1.1, hk.2⟩, hk.1.2⟩))).2.1 (Kd.V_F (Kd.V_mono (ok' := (fun k_ => ((fun k_ => (P0_ k_ ∨ w.heap.size ≤ k_) ∧ some k_ ≠ (v292 : Value).ownBlock)) k_ ∧ some k_ ≠ (v289 : Value).ownBlock)) (HL294_0.out) (fun k_ hk => ⟨⟨hk.1.1, hk.2⟩, hk.1.2⟩))))); (case aB => exact (by repeat (first | (with_reducible first | exact HB.out | apply below_alloc | apply pw_below_drewN | apply below_drew1) | exact HB.out))); (case aF => exact (fun k_ hk => ⟨(.inr (Nat.le_trans (below_size (by repeat (first | (with_reducible first | exact HB.out | apply below_alloc | apply pw_below_drewN | apply below_drew1) | exact HB.out))) hk)), Kd.fresh' (Kd.R_lt (by (with_reducible repeat (first | apply Kd.R_alloc | apply Kd.R_drewN | apply Kd.R_drew)); exact HO293.out)) k_ hk⟩)); (case aO => exact (by (with_reducible repeat (first | apply Kd.N_alloc | apply Kd.N_drewN | apply Kd.N_drew)); exact HO290.out)); (case aS => exact (below_size (by repeat (first | (with_reducible first | exact HB.out | apply below_alloc | apply pw_below_drewN | apply below_drew1) | exact HB.out)))); (case aL => have := LMc32.out; omega); intro v296 w38 ho hb hg hat; rw [← Ny295.out] at ho; have n0_ := Aside0.mk (Kd.V_afterv (ok := (fun k_ => (P0_ k_ ∨ w.heap.size ≤ k_) ∧ some k_ ≠ (v292 : Value).ownBlock)) (by (with_reducible repeat (first | apply Kd.V_alloc | apply Kd.V_drewN | apply Kd.V_drew)); exact Kd.V_mono HO_0.out (fun _ hk => ⟨⟨hk.1.1, hk.2⟩, hk.1.2⟩)) hg hat); have n1_ := Aside0.mk (Kd.V_afterv (ok := (fun k_ => (P0_ k_ ∨ w.heap.size ≤ k_) ∧ some k_ ≠ (v292 : Value).ownBlock)) (by (with_reducible repeat (first | apply Kd.V_alloc | apply Kd.V_drewN | apply Kd.V_drew)); exact Kd.V_mono HL284_0.out (fun _ hk => ⟨⟨hk.1.1, hk.2⟩, hk.1.2⟩)) hg hat); have n2_ := Aside0.mk (Kd.R_over' (by (with_reducible repeat (first | apply Kd.R_alloc | apply Kd.R_drewN | apply Kd.R_drew)); exact HO293.out) (Kd.N_typed (by (with_reducible repeat (first | apply Kd.N_alloc | apply Kd.N_drewN | apply Kd.N_drew)); exact HO290.out)) (by decide) hg); have n3_ := Aside0.mk (Kd.V_afterv (ok := (fun k_ => (P0_ k_ ∨ w.heap.size ≤ k_) ∧ some k_ ≠ (v292 : Value).ownBlock)) (by (with_reducible repeat (first | apply Kd.V_alloc | apply Kd.V_drewN | apply Kd.V_drew)); exact Kd.V_mono HL294_0.out (fun _ hk => ⟨⟨hk.1.1, hk.2⟩, hk.1.2⟩)) hg hat); have n4_ := Aside0.mk (hb); have n5_ := Aside0.mk (ho); clear HO_0; clear HL284_0; clear HO293; clear HL294_0; clear HB; clear HO290; have HO_0 := n0_; have HL284_0 := n1_; have HO293 := n2_; have HL294_0 := n3_; have HB := n4_; have HO297 := n5_; clear n0_ n1_ n2_ n3_ n4_ n5_; clear ho hb hg hat; have p298 : 0 ≤ (x18_2 : Int) := of_decide_eq_true (by first | (with_reducible assumption) | assumption); have q298 : x18_2 < (l1.length : Int) := of_decide_eq_true (by first | (with_reducible assumption) | assumption); obtain ⟨ad298, e298, hx298_0⟩ := Kd.at_bool HR1.out x18_2 p298 q298; cases e298; replace hx298_0 := (HB.out.cell (World.block_lt_of_cell? w _ hx298_0)).trans hx298_0; replace p298 := eq_true p298; replace q298 := eq_true q298) | ((with_reducible refine gate_builtin (b := .append) (xs := #[.tmp 123, .tmp 128]) rfl ?_); (try (refine gate_guard (by rfl) ?_; dsimp only)); at_builtin; refine Kd.R_append Kd.bool (w0 := w) w.heap.size rfl (.tmp 123) (.tmp 128) 23 4 (.bool false) 1 rfl Try.underlying23 info4 rfl (by decide) (by omega) v292 y291 (rdOf false l1 x18_2) [.bool (rdOf false l1 x18_2)] (fun k_ => (w.heap.size ≤ k_)) (fun _ => False) rfl rfl ?aP (fun _ hk => hk.elim) ?aF ?aO ?aB ?aS ?aL ?_; (case aP => exact rfl); (case aB => exact (by repeat (first | (with_reducible first | exact HB.out | apply below_alloc | apply pw_below_drewN | apply below_drew1) | exact HB.out))); (case aF => exact (fun k_ hk => (Nat.le_trans (below_size (by repeat (first | (with_reducible first | exact HB.out | apply below_alloc | apply pw_below_drewN | apply below_drew1) | exact HB.out))) hk))); (case aO => exact (by (with_reducible repeat (first | apply Kd.R_alloc | apply Kd.R_drewN | apply Kd.R_drew)); exact HO293.out)); (case aS => exact (below_size (by repeat (first | (with_reducible first | exact HB.out | apply below_alloc | apply pw_below_drewN | apply below_drew1) | exact HB.out)))); (case aL => have := LMc34.out; omega); intro v300 w39 ho hb hg hat; rw [← Ny299.out] at ho; have n0_ := Aside0.mk (Kd.V_afterv (ok := (fun k_ => (P0_ k_ ∨ w.heap.size ≤ k_) ∧ some k_ ≠ (v296 : Value).ownBlock)) (by (with_reducible repeat (first | apply Kd.V_alloc | apply Kd.V_drewN | apply Kd.V_drew)); exact Kd.V_mono HO_0.out (fun _ hk => ⟨⟨hk.1.1, hk.2⟩, hk.1.2⟩)) hg hat); have n1_ := Aside0.mk (Kd.V_afterv (ok := (fun k_ => (P0_ k_ ∨ w.heap.size ≤ k_) ∧ some k_ ≠ (v296 : Value).ownBlock)) (by (with_reducible repeat (first | apply Kd.V_alloc | apply Kd.V_drewN | apply Kd.V_drew)); exact Kd.V_mono HL284_0.out (fun _ hk => ⟨⟨hk.1.1, hk.2⟩, hk.1.2⟩)) hg hat); have n2_ := Aside0.mk (Kd.V_afterv (ok := (fun k_ => (P0_ k_ ∨ w.heap.size ≤ k_) ∧ some k_ ≠ (v296 : Value).ownBlock)) (by (with_reducible repeat (first | apply Kd.V_alloc | apply Kd.V_drewN | apply Kd.V_drew)); exact Kd.V_mono HL294_0.out (fun _ hk => ⟨⟨hk.1.1, hk.2⟩, hk.1.2⟩)) hg hat); have n3_ := Aside0.mk (Kd.N_afterv (ok := (fun k_ => (P0_ k_ ∨ w.heap.size ≤ k_))) (by (with_reducible repeat (first | apply Kd.N_alloc | apply Kd.N_drewN | apply Kd.N_drew)); exact HO297.out) hg hat); have n4_ := Aside0.mk (hb); have n5_ := Aside0.mk (ho); clear HO_0; clear HL284_0; clear HL294_0; clear HO297; clear HB; clear HO293; have HO_0 := n0_; have HL284_0 := n1_; have HL294_0 := n2_; have HO297 := n3_; have HB := n4_; have HO301 := n5_; clear n0_ n1_ n2_ n3_ n4_ n5_; clear ho hb hg hat))
                                        go_roundg k3
                                        case measure => have := HJ8.out; have := HK2.out; have := HK3.out; omega
                                        case rel => exact ⟨(y295), (y299), (wrap64 (x18_2 + 1)), (by first | rfl | (simp; done) | (simp [*]; done)), H', ⟨by have := HJ8.out; have := HK2.out; have := HK3.out; omega⟩, ⟨by (with_reducible repeat (first | apply Kd.V_alloc | apply Kd.V_drewN | apply Kd.V_drew)); exact Kd.V_mono HO_0.out (fun _ hk => ⟨hk.1.1, ⟨hk.1.2, hk.2⟩⟩)⟩, ⟨by (with_reducible repeat (first | apply Kd.N_alloc | apply Kd.N_drewN | apply Kd.N_drew)); exact HO297.out⟩, ⟨by (with_reducible repeat (first | apply Kd.R_alloc | apply Kd.R_drewN | apply Kd.R_drew)); exact HO301.out⟩, ⟨by repeat (first | (with_reducible first | exact HB.out | apply below_alloc | apply pw_below_drewN | apply below_drew1) | exact HB.out)⟩⟩
                                      · rw [if_neg c34] at H
                                        exact absurd H (by simp)
                                    · rw [if_neg c33] at H
                                      exact absurd H (by simp)
                                  · rw [if_neg c32] at H
                                    exact absurd H (by simp)
                                · rw [if_neg c31] at H
                                  exact absurd H (by simp)
                              · rw [if_neg c30] at H
                                have c30b0 : decide (x18_2 < (l0.length : Int)) = false := decide_eq_false c30
                                clear c30
                                have H' := Aside0.mk H
                                clear H
                                have p284 : 0 ≤ (0 : Int) := (by omega)
                                have q284 : 0 < (l0.length : Int) := of_decide_eq_true (by first | (with_reducible assumption) | assumption)
                                obtain ⟨ad284, A284_0, c284_0, e284, hx284_0, hl284_0, hi284_0⟩ := at_L1 (Kd.V_reads' HO_0.out).2.2 0 p284 q284
                                cases e284
                                obtain ⟨ce284, hce284, hMe284, hcc284⟩ := Kd.V_get HO_0.out [] 0 p284 (by first | exact q284 | exact of_decide_eq_true (by first | (with_reducible assumption) | assumption) | (have e_ := (Kd.V_reads' HO_0.out).1; omega))
                                obtain ⟨ua284_0, uc284_0, rfl, ul284_0, ge284_0⟩ := Kd.FK_slice_open hMe284
                                have hv284_0 := hcc284 0 _ rfl
                                rw [Nat.add_zero, show ((Kd.slice 3 (Kd.int .i64))).sz = 1 from rfl, Nat.mul_one] at hv284_0
                                replace hv284_0 := Option.some.inj (hv284_0.symm.trans hx284_0)
                                injection hv284_0 with hva_ hvn_ hvc_
                                rw [hva_] at ge284_0
                                rw [hvc_] at ul284_0
                                have HL284_0 := Aside0.mk (show Kd.V (Kd.int .i64) 3 _ w.heap.size _ _ (rd_L1 l0 0) from Kd.V_mk ul284_0 ge284_0)
                                clear hva_ hvn_ hvc_ ge284_0 ul284_0
                                clear hcc284 hce284
                                have qi284 : (0 < l0.length) = True := eq_true (by omega)
                                (try rw [show ((0 : Int)).toNat = 0 from rfl] at hx284_0)
                                (try rw [Addr.add_zero'] at hx284_0)
                                have HR284_0 := Aside0.mk hi284_0
                                have HC284_0 := Aside0.mk hl284_0
                                clear hi284_0 hl284_0
                                replace p284 := eq_true p284
                                replace q284 := eq_true q284
                                obtain ⟨Ao41, co41, eo41⟩ := Kd.R_slice HO_19.out
                                subst eo41
                                go_wp2_with (first | ((with_reducible refine gate_builtin (b := .append) (xs := #[.tmp 105, .tmp 107]) rfl ?_); (try (refine gate_guard (by rfl) ?_; dsimp only)); at_builtin; refine Kd.N_append (Kd.slice 3 (Kd.int .i64)) (w0 := w) w.heap.size rfl (.tmp 105) (.tmp 107) 22 33 (.slice none 0 0) 24 rfl Try.underlying22 info33 rfl (by decide) (by omega) u16 x16_2 x19_3 [.slice Ao41 x19_3.length co41] (fun k_ => (P0_ k_ ∨ w.heap.size ≤ k_) ∧ some k_ ≠ (u17 : Value).ownBlock) (fun k_ => ((fun k_ => (P0_ k_ ∨ w.heap.size ≤ k_) ∧ some k_ ≠ (u17 : Value).ownBlock)) k_ ∧ some k_ ≠ (u16 : Value).ownBlock) rfl rfl ?aP (fun _ hk => hk) ?aF ?aO ?aB ?aS ?aL ?_; (case aP => exact (Kd.FK_slice_mk (Kd.R_reads' (Kd.R_mono (ok' := (fun k_ => ((fun k_ => (P0_ k_ ∨ w.heap.size ≤ k_) ∧ some k_ ≠ (u17 : Value).ownBlock)) k_ ∧ some k_ ≠ (u16 : Value).ownBlock)) (Kd.R_apart' (Kd.R_apart' (HO_19.out) (Kd.R_typed HO_17.out) (by decide)) (Kd.N_typed HO_16.out) (by decide)) (fun k_ hk => ⟨⟨(.inr (hk.1.1)), hk.1.2⟩, hk.2⟩))).2.1 (Kd.R_F (Kd.R_mono (ok' := (fun k_ => ((fun k_ => (P0_ k_ ∨ w.heap.size ≤ k_) ∧ some k_ ≠ (u17 : Value).ownBlock)) k_ ∧ some k_ ≠ (u16 : Value).ownBlock)) (Kd.R_apart' (Kd.R_apart' (HO_19.out) (Kd.R_typed HO_17.out) (by decide)) (Kd.N_typed HO_16.out) (by decide)) (fun k_ hk => ⟨⟨(.inr (hk.1.1)), hk.1.2⟩, hk.2⟩))))); (case aB => exact (by repeat (first | (with_reducible first | exact HB.out | apply below_alloc | apply pw_below_drewN | apply below_drew1) | exact HB.out))); (case aF => exact (fun k_ hk => ⟨(.inr (Nat.le_trans (below_size (by repeat (first | (with_reducible first | exact HB.out | apply below_alloc | apply pw_below_drewN | apply below_drew1) | exact HB.out))) hk)), Kd.fresh' (Kd.R_lt (by (with_reducible repeat (first | apply Kd.R_alloc | apply Kd.R_drewN | apply Kd.R_drew)); exact HO_17.out)) k_ hk⟩)); (case aO => exact (by (with_reducible repeat (first | apply Kd.N_alloc | apply Kd.N_drewN | apply Kd.N_drew)); exact Kd.N_mono HO_16.out (fun _ hk => ⟨hk.1, hk.2.1⟩))); (case aS => exact (below_size (by repeat (first | (with_reducible first | exact HB.out | apply below_alloc | apply pw_below_drewN | apply below_drew1) | exact HB.out)))); (case aL => have := LMc28.out; omega); intro v289 w40 ho hb hg hat; rw [← Ny288.out] at ho; have n0_ := Aside0.mk (Kd.V_afterv (ok := (fun k_ => (P0_ k_ ∨ w.heap.size ≤ k_) ∧ some k_ ≠ (u17 : Value).ownBlock ∧ some k_ ≠ (.slice Ao41 x19_3.length co41 : Value).ownBlock)) (by (with_reducible repeat (first | apply Kd.V_alloc | apply Kd.V_drewN | apply Kd.V_drew)); exact Kd.V_mono HO_0.out (fun _ hk => ⟨⟨hk.1, ⟨hk.2.2.1, hk.2.2.2⟩⟩, hk.2.1⟩)) hg hat); have n1_ := Aside0.mk (Kd.R_over' (by (with_reducible repeat (first | apply Kd.R_alloc | apply Kd.R_drewN | apply Kd.R_drew)); exact HO_17.out) (Kd.N_typed (by (with_reducible repeat (first | apply Kd.N_alloc | apply Kd.N_drewN | apply Kd.N_drew)); exact HO_16.out)) (by decide) hg); have n2_ := Aside0.mk (Kd.V_afterv (ok := (fun k_ => (P0_ k_ ∨ w.heap.size ≤ k_) ∧ some k_ ≠ (u17 : Value).ownBlock ∧ some k_ ≠ (.slice Ao41 x19_3.length co41 : Value).ownBlock)) (by (with_reducible repeat (first | apply Kd.V_alloc | apply Kd.V_drewN | apply Kd.V_drew)); exact Kd.V_mono HL284_0.out (fun _ hk => ⟨⟨hk.1, ⟨hk.2.2.1, hk.2.2.2⟩⟩, hk.2.1⟩)) hg hat); have n3_ := Aside0.mk (hb); have n4_ := Aside0.mk (ho); clear HO_0; clear HO_17; clear HL284_0; clear HB; clear HO_16; clear HO_19; have HO_0 := n0_; have HO_17 := n1_; have HL284_0 := n2_; have HB := n3_; have HO290 := n4_; clear n0_ n1_ n2_ n3_ n4_; clear ho hb hg hat) | ((with_reducible refine gate_builtin (b := .append) (xs := #[.tmp 109, .tmp 110]) rfl ?_); (try (refine gate_guard (by rfl) ?_; dsimp only)); at_builtin; refine Kd.R_append Kd.bool (w0 := w) w.heap.size rfl (.tmp 109) (.tmp 110) 23 4 (.bool false) 1 rfl Try.underlying23 info4 rfl (by decide) (by omega) u17 x17_2 true [.bool true] (fun k_ => (w.heap.size ≤ k_)) (fun _ => False) rfl rfl ?aP (fun _ hk => hk.elim) ?aF ?aO ?aB ?aS ?aL ?_; (case aP => exact rfl); (case aB => exact (by repeat (first | (with_reducible first | exact HB.out | apply below_alloc | apply pw_below_drewN | apply below_drew1) | exact HB.out))); (case aF => exact (fun k_ hk => (Nat.le_trans (below_size (by repeat (first | (with_reducible first | exact HB.out | apply below_alloc | apply pw_below_drewN | apply below_drew1) | exact HB.out))) hk))); (case aO => exact (by (with_reducible repeat (first | apply Kd.R_alloc | apply Kd.R_drewN | apply Kd.R_drew)); exact HO_17.out)); (case aS => exact (below_size (by repeat (first | (with_reducible first | exact HB.out | apply below_alloc | apply pw_below_drewN | apply below_drew1) | exact HB.out)))); (case aL => have := LMc29.out; omega); intro v292 w42 ho hb hg hat; rw [← Ny291.out] at ho; have n0_ := Aside0.mk (Kd.V_afterv (ok := (fun k_ => (P0_ k_ ∨ w.heap.size ≤ k_) ∧ some k_ ≠ (v289 : Value).ownBlock)) (by (with_reducible repeat (first | apply Kd.V_alloc | apply Kd.V_drewN | apply Kd.V_drew)); exact Kd.V_mono HO_0.out (fun _ hk => ⟨⟨hk.1.1, hk.2⟩, hk.1.2.1⟩)) hg hat); have n1_ := Aside0.mk (Kd.V_afterv (ok := (fun k_ => (P0_ k_ ∨ w.heap.size ≤ k_) ∧ some k_ ≠ (v289 : Value).ownBlock)) (by (with_reducible repeat (first | apply Kd.V_alloc | apply Kd.V_drewN | apply Kd.V_drew)); exact Kd.V_mono HL284_0.out (fun _ hk => ⟨⟨hk.1.1, hk.2⟩, hk.1.2.1⟩)) hg hat); have n2_ := Aside0.mk (Kd.N_afterv (ok := (fun k_ => (P0_ k_ ∨ w.heap.size ≤ k_))) (by (with_reducible repeat (first | apply Kd.N_alloc | apply Kd.N_drewN | apply Kd.N_drew)); exact HO290.out) hg hat); have n3_ := Aside0.mk (hb); have n4_ := Aside0.mk (ho); clear HO_0; clear HL284_0; clear HO290; clear HB; clear HO_17; have HO_0 := n0_; have HL284_0 := n1_; have HO290 := n2_; have HB := n3_; have HO293 := n4_; clear n0_ n1_ n2_ n3_ n4_; clear ho hb hg hat))
                                go_roundg k3
                                case measure => have := HJ8.out; have := HK2.out; have := HK3.out; omega
                                case rel => exact ⟨(y288), (y291), (wrap64 (x18_2 + 1)), (by first | rfl | (simp; done) | (simp [*]; done)), H', ⟨by have := HJ8.out; have := HK2.out; have := HK3.out; omega⟩, ⟨by (with_reducible repeat (first | apply Kd.V_alloc | apply Kd.V_drewN | apply Kd.V_drew)); exact Kd.V_mono HO_0.out (fun _ hk => ⟨hk.1.1, ⟨hk.1.2, hk.2⟩⟩)⟩, ⟨by (with_reducible repeat (first | apply Kd.N_alloc | apply Kd.N_drewN | apply Kd.N_drew)); exact HO290.out⟩, ⟨by (with_reducible repeat (first | apply Kd.R_alloc | apply Kd.R_drewN | apply Kd.R_drew)); exact HO293.out⟩, ⟨by repeat (first | (with_reducible first | exact HB.out | apply below_alloc | apply pw_below_drewN | apply below_drew1) | exact HB.out)⟩⟩
                            · rw [if_neg c29] at H
                              exact absurd H (by simp)
                          · rw [if_neg c28] at H
                            exact absurd H (by simp)
                      · rw [if_neg c24] at H
                        exact absurd H (by simp)
                · rw [if_neg c23] at H
                  have c23b0 : (x18_2 == (Int.tmod a4 (wrap64 (a2 + 1)))) = false := beq_eq_false_iff_ne.mpr c23
                  have c23b1 : (x18_2 != (Int.tmod a4 (wrap64 (a2 + 1)))) = true := bne_iff_ne.mpr c23
                  by_cases c43 : x18_2 < (l0.length : Int)
                  · rw [if_pos c43] at H
                    have c43b0 : decide (x18_2 < (l0.length : Int)) = true := decide_eq_true c43
                    clear c43
                    by_cases c44 : 0 ≤ x18_2
                    · rw [if_pos c44] at H
                      have c44b0 : decide (0 ≤ x18_2) = true := decide_eq_true c44
                      clear c44
                      by_cases c45 : x16_2.length < 5864062014805
                      · rw [if_pos c45] at H
                        have LMc45 := Aside0.mk c45
                        clear c45
                        obtain ⟨y303, hy303⟩ : ∃ y_ : List (List Int), y_ = (x16_2 ++ [rd_L1 l0 x18_2]) := ⟨_, rfl⟩
                        replace H : (if x18_2 < (l1.length : Int) then (if x17_2.length < 140737488355328 then (chargeparklaw30_BidsFurther.l0 k2 l0 l1 a2 a3 a4 a5 true (Int.tmod a4 (wrap64 (a2 + 1))) y303 (x17_2 ++ [rdOf false l1 x18_2]) (wrap64 (x18_2 + 1))) else (none)) else (none)) = some r := by first | (rw [hy303]; with_reducible exact H) | (have H2_ := (Option.bind_some _ _).symm.trans H; rw [hy303]; with_reducible exact H2_) | (have H2_ := (Option.bind_some _ _).symm.trans H; with_reducible exact H2_) | with_reducible exact H | (rw [hy303]; exact H) | exact H
                        have Ny303 := Aside0.mk hy303
                        clear hy303
                        by_cases c46 : x18_2 < (l1.length : Int)
                        · rw [if_pos c46] at H
                          have c46b0 : decide (x18_2 < (l1.length : Int)) = true := decide_eq_true c46
                          clear c46
                          by_cases c47 : x17_2.length < 140737488355328
                          · rw [if_pos c47] at H
                            have LMc47 := Aside0.mk c47
                            clear c47
                            obtain ⟨y307, hy307⟩ : ∃ y_ : List Bool, y_ = (x17_2 ++ [rdOf false l1 x18_2]) := ⟨_, rfl⟩
                            replace H : (chargeparklaw30_BidsFurther.l0 k2 l0 l1 a2 a3 a4 a5 true (Int.tmod a4 (wrap64 (a2 + 1))) y303 y307 (wrap64 (x18_2 + 1))) = some r := by first | (rw [hy307]; with_reducible exact H) | (have H2_ := (Option.bind_some _ _).symm.trans H; rw [hy307]; with_reducible exact H2_) | (have H2_ := (Option.bind_some _ _).symm.trans H; with_reducible exact H2_) | with_reducible exact H | (rw [hy307]; exact H) | exact H
                            have Ny307 := Aside0.mk hy307
                            clear hy307
                            have H' := Aside0.mk H
                            clear H
                            have p302 : 0 ≤ (x18_2 : Int) := of_decide_eq_true (by first | (with_reducible assumption) | assumption)
                            have q302 : x18_2 < (l0.length : Int) := of_decide_eq_true (by first | (with_reducible assumption) | assumption)
                            obtain ⟨ad302, A302_0, c302_0, e302, hx302_0, hl302_0, hi302_0⟩ := at_L1 (Kd.V_reads' HO_0.out).2.2 x18_2 p302 q302
                            cases e302
                            obtain ⟨ce302, hce302, hMe302, hcc302⟩ := Kd.V_get HO_0.out [] x18_2 p302 (by first | exact q302 | exact of_decide_eq_true (by first | (with_reducible assumption) | assumption) | (have e_ := (Kd.V_reads' HO_0.out).1; omega))
                            obtain ⟨ua302_0, uc302_0, rfl, ul302_0, ge302_0⟩ := Kd.FK_slice_open hMe302
                            have hv302_0 := hcc302 0 _ rfl
                            rw [Nat.add_zero, show ((Kd.slice 3 (Kd.int .i64))).sz = 1 from rfl, Nat.mul_one] at hv302_0
                            replace hv302_0 := Option.some.inj (hv302_0.symm.trans hx302_0)
                            injection hv302_0 with hva_ hvn_ hvc_
                            rw [hva_] at ge302_0
                            rw [hvc_] at ul302_0
                            have HL302_0 := Aside0.mk (show Kd.V (Kd.int .i64) 3 _ w.heap.size _ _ (rd_L1 l0 x18_2) from Kd.V_mk ul302_0 ge302_0)
                            clear hva_ hvn_ hvc_ ge302_0 ul302_0
                            clear hcc302 hce302
                            have HR302_0 := Aside0.mk hi302_0
                            have HC302_0 := Aside0.mk hl302_0
                            clear hi302_0 hl302_0
                            replace p302 := eq_true p302
                            replace q302 := eq_true q302
                            go_wp2_with (first | ((with_reducible refine gate_builtin (b := .append) (xs := #[.tmp 116, .tmp 121]) rfl ?_); (try (refine gate_guard (by rfl) ?_; dsimp only)); at_builtin; refine Kd.N_append (Kd.slice 3 (Kd.int .i64)) (w0 := w) w.heap.size rfl (.tmp 116) (.tmp 121) 22 33 (.slice none 0 0) 24 rfl Try.underlying22 info33 rfl (by decide) (by omega) u16 x16_2 (rd_L1 l0 x18_2) [.slice A302_0 (rd_L1 l0 x18_2).length c302_0] (fun k_ => (P0_ k_ ∨ w.heap.size ≤ k_) ∧ some k_ ≠ (u17 : Value).ownBlock) (fun k_ => ((fun k_ => (P0_ k_ ∨ w.heap.size ≤ k_) ∧ some k_ ≠ (u17 : Value).ownBlock)) k_ ∧ some k_ ≠ (u16 : Value).ownBlock) rfl rfl ?aP (fun _ hk => hk) ?aF ?aO ?aB ?aS ?aL ?_; (case aP => exact (Kd.FK_slice_mk (Kd.V_reads' (Kd.V_mono (ok' := (fun k_ => ((fun k_ => (P0_ k_ ∨ w.heap.size ≤ k_) ∧ some k_ ≠ (u17 : Value).ownBlock)) k_ ∧ some k_ ≠ (u16 : Value).ownBlock)) (HL302_0.out) (fun k_ hk => ⟨⟨hk.1, hk.2.2⟩, hk.2.1⟩))).2.1 (Kd.V_F (Kd.V_mono (ok' := (fun k_ => ((fun k_ => (P0_ k_ ∨ w.heap.size ≤ k_) ∧ some k_ ≠ (u17 : Value).ownBlock)) k_ ∧ some k_ ≠ (u16 : Value).ownBlock)) (HL302_0.out) (fun k_ hk => ⟨⟨hk.1, hk.2.2⟩, hk.2.1⟩))))); (case aB => exact (by repeat (first | (with_reducible first | exact HB.out | apply below_alloc | apply pw_below_drewN | apply below_drew1) | exact HB.out))); (case aF => exact (fun k_ hk => ⟨(.inr (Nat.le_trans (below_size (by repeat (first | (with_reducible first | exact HB.out | apply below_alloc | apply pw_below_drewN | apply below_drew1) | exact HB.out))) hk)), Kd.fresh' (Kd.R_lt (by (with_reducible repeat (first | apply Kd.R_alloc | apply Kd.R_drewN | apply Kd.R_drew)); exact HO_17.out)) k_ hk⟩)); (case aO => exact (by (with_reducible repeat (first | apply Kd.N_alloc | apply Kd.N_drewN | apply Kd.N_drew)); exact HO_16.out)); (case aS => exact (below_size (by repeat (first | (with_reducible first | exact HB.out | apply below_alloc | apply pw_below_drewN | apply below_drew1) | exact HB.out)))); (case aL => have := LMc45.out; omega); intro v304 w48 ho hb hg hat; rw [← Ny303.out] at ho; have n0_ := Aside0.mk (Kd.V_afterv (ok := (fun k_ => (P0_ k_ ∨ w.heap.size ≤ k_) ∧ some k_ ≠ (u17 : Value).ownBlock)) (by (with_reducible repeat (first | apply Kd.V_alloc | apply Kd.V_drewN | apply Kd.V_drew)); exact Kd.V_mono HO_0.out (fun _ hk => ⟨⟨hk.1, hk.2.2⟩, hk.2.1⟩)) hg hat); have n1_ := Aside0.mk (Kd.R_over' (by (with_reducible repeat (first | apply Kd.R_alloc | apply Kd.R_drewN | apply Kd.R_drew)); exact HO_17.out) (Kd.N_typed (by (with_reducible repeat (first | apply Kd.N_alloc | apply Kd.N_drewN | apply Kd.N_drew)); exact HO_16.out)) (by decide) hg); have n2_ := Aside0.mk (Kd.V_afterv (ok := (fun k_ => (P0_ k_ ∨ w.heap.size ≤ k_) ∧ some k_ ≠ (u17 : Value).ownBlock)) (by (with_reducible repeat (first | apply Kd.V_alloc | apply Kd.V_drewN | apply Kd.V_drew)); exact Kd.V_mono HL302_0.out (fun _ hk => ⟨⟨hk.1, hk.2.2⟩, hk.2.1⟩)) hg hat); have n3_ := Aside0.mk (hb); have n4_ := Aside0.mk (ho); clear HO_0; clear HO_17; clear HL302_0; clear HB; clear HO_16; have HO_0 := n0_; have HO_17 := n1_; have HL302_0 := n2_; have HB := n3_; have HO305 := n4_; clear n0_ n1_ n2_ n3_ n4_; clear ho hb hg hat; have p306 : 0 ≤ (x18_2 : Int) := of_decide_eq_true (by first | (with_reducible assumption) | assumption); have q306 : x18_2 < (l1.length : Int) := of_decide_eq_true (by first | (with_reducible assumption) | assumption); obtain ⟨ad306, e306, hx306_0⟩ := Kd.at_bool HR1.out x18_2 p306 q306; cases e306; replace hx306_0 := (HB.out.cell (World.block_lt_of_cell? w _ hx306_0)).trans hx306_0; replace p306 := eq_true p306; replace q306 := eq_true q306) | ((with_reducible refine gate_builtin (b := .append) (xs := #[.tmp 123, .tmp 128]) rfl ?_); (try (refine gate_guard (by rfl) ?_; dsimp only)); at_builtin; refine Kd.R_append Kd.bool (w0 := w) w.heap.size rfl (.tmp 123) (.tmp 128) 23 4 (.bool false) 1 rfl Try.underlying23 info4 rfl (by decide) (by omega) u17 x17_2 (rdOf false l1 x18_2) [.bool (rdOf false l1 x18_2)] (fun k_ => (w.heap.size ≤ k_)) (fun _ => False) rfl rfl ?aP (fun _ hk => hk.elim) ?aF ?aO ?aB ?aS ?aL ?_; (case aP => exact rfl); (case aB => exact (by repeat (first | (with_reducible first | exact HB.out | apply below_alloc | apply pw_below_drewN | apply below_drew1) | exact HB.out))); (case aF => exact (fun k_ hk => (Nat.le_trans (below_size (by repeat (first | (with_reducible first | exact HB.out | apply below_alloc | apply pw_below_drewN | apply below_drew1) | exact HB.out))) hk))); (case aO => exact (by (with_reducible repeat (first | apply Kd.R_alloc | apply Kd.R_drewN | apply Kd.R_drew)); exact HO_17.out)); (case aS => exact (below_size (by repeat (first | (with_reducible first | exact HB.out | apply below_alloc | apply pw_below_drewN | apply below_drew1) | exact HB.out)))); (case aL => have := LMc47.out; omega); intro v308 w49 ho hb hg hat; rw [← Ny307.out] at ho; have n0_ := Aside0.mk (Kd.V_afterv (ok := (fun k_ => (P0_ k_ ∨ w.heap.size ≤ k_) ∧ some k_ ≠ (v304 : Value).ownBlock)) (by (with_reducible repeat (first | apply Kd.V_alloc | apply Kd.V_drewN | apply Kd.V_drew)); exact Kd.V_mono HO_0.out (fun _ hk => ⟨⟨hk.1.1, hk.2⟩, hk.1.2⟩)) hg hat); have n1_ := Aside0.mk (Kd.V_afterv (ok := (fun k_ => (P0_ k_ ∨ w.heap.size ≤ k_) ∧ some k_ ≠ (v304 : Value).ownBlock)) (by (with_reducible repeat (first | apply Kd.V_alloc | apply Kd.V_drewN | apply Kd.V_drew)); exact Kd.V_mono HL302_0.out (fun _ hk => ⟨⟨hk.1.1, hk.2⟩, hk.1.2⟩)) hg hat); have n2_ := Aside0.mk (Kd.N_afterv (ok := (fun k_ => (P0_ k_ ∨ w.heap.size ≤ k_))) (by (with_reducible repeat (first | apply Kd.N_alloc | apply Kd.N_drewN | apply Kd.N_drew)); exact HO305.out) hg hat); have n3_ := Aside0.mk (hb); have n4_ := Aside0.mk (ho); clear HO_0; clear HL302_0; clear HO305; clear HB; clear HO_17; have HO_0 := n0_; have HL302_0 := n1_; have HO305 := n2_; have HB := n3_; have HO309 := n4_; clear n0_ n1_ n2_ n3_ n4_; clear ho hb hg hat))
                            go_roundg k2
                            case measure => have := HJ8.out; have := HK2.out; omega
                            case rel => exact ⟨(y303), (y307), (wrap64 (x18_2 + 1)), (by first | rfl | (simp; done) | (simp [*]; done)), H', ⟨by have := HJ8.out; have := HK2.out; omega⟩, ⟨by (with_reducible repeat (first | apply Kd.V_alloc | apply Kd.V_drewN | apply Kd.V_drew)); exact Kd.V_mono HO_0.out (fun _ hk => ⟨hk.1.1, ⟨hk.1.2, hk.2⟩⟩)⟩, ⟨by (with_reducible repeat (first | apply Kd.N_alloc | apply Kd.N_drewN | apply Kd.N_drew)); exact HO305.out⟩, ⟨by (with_reducible repeat (first | apply Kd.R_alloc | apply Kd.R_drewN | apply Kd.R_drew)); exact HO309.out⟩, ⟨by repeat (first | (with_reducible first | exact HB.out | apply below_alloc | apply pw_below_drewN | apply below_drew1) | exact HB.out)⟩⟩
                          · rw [if_neg c47] at H
                            exact absurd H (by simp)
                        · rw [if_neg c46] at H
                          exact absurd H (by simp)
                      · rw [if_neg c45] at H
                        exact absurd H (by simp)
                    · rw [if_neg c44] at H
                      exact absurd H (by simp)
                  · rw [if_neg c43] at H
                    have c43b0 : decide (x18_2 < (l0.length : Int)) = false := decide_eq_false c43
                    clear c43
                    have H' := Aside0.mk H
                    clear H
                    go_wp2
                    go_roundg k2
                    case measure => have := HJ8.out; have := HK2.out; omega
                    case rel => exact ⟨(x16_2), (x17_2), (wrap64 (x18_2 + 1)), (by first | rfl | (simp; done) | (simp [*]; done)), H', ⟨by have := HJ8.out; have := HK2.out; omega⟩, ⟨by (with_reducible repeat (first | apply Kd.V_alloc | apply Kd.V_drewN | apply Kd.V_drew)); exact HO_0.out⟩, ⟨by (with_reducible repeat (first | apply Kd.N_alloc | apply Kd.N_drewN | apply Kd.N_drew)); exact HO_16.out⟩, ⟨by (with_reducible repeat (first | apply Kd.R_alloc | apply Kd.R_drewN | apply Kd.R_drew)); exact HO_17.out⟩, ⟨by repeat (first | (with_reducible first | exact HB.out | apply below_alloc | apply pw_below_drewN | apply below_drew1) | exact HB.out)⟩⟩
              · rw [if_neg c22] at H
                have c22b0 : decide (x18_2 ≤ (l0.length : Int)) = false := decide_eq_false c22
                clear c22
                replace H := Option.bind_eq_some_iff.mp H
                obtain ⟨⟨t310, t311⟩, A500, H⟩ := H
                replace H : ((bids_Baseline.f k2 x16_2 x17_2 (wrap64 (a2 + 1)) a3).bind fun bt312 => ((bids_Delivered.f l0 l1 a2).bind fun bt314 => ((bids_Delivered.f x16_2 x17_2 (wrap64 (a2 + 1))).bind fun bt316 => (if true = true then (if t310 = bt312.1 then (if t311 = bt312.2 then (if bt314.1 = bt316.1 then (chargeparklaw30_BidsFurther.j3 k2 l0 l1 a2 a3 a4 a5 (bt314.2 == bt316.2) t310 t311) else (chargeparklaw30_BidsFurther.j3 k2 l0 l1 a2 a3 a4 a5 false t310 t311)) else (chargeparklaw30_BidsFurther.j3 k2 l0 l1 a2 a3 a4 a5 false t310 t311)) else (chargeparklaw30_BidsFurther.j3 k2 l0 l1 a2 a3 a4 a5 false t310 t311)) else (chargeparklaw30_BidsFurther.j3 k2 l0 l1 a2 a3 a4 a5 false t310 t311))))) = some r := H
                have A50 := Aside0.mk A500
                clear A500
                replace H := Option.bind_eq_some_iff.mp H
                obtain ⟨⟨t312, t313⟩, A510, H⟩ := H
                replace H : ((bids_Delivered.f l0 l1 a2).bind fun bt314 => ((bids_Delivered.f x16_2 x17_2 (wrap64 (a2 + 1))).bind fun bt316 => (if true = true then (if t310 = t312 then (if t311 = t313 then (if bt314.1 = bt316.1 then (chargeparklaw30_BidsFurther.j3 k2 l0 l1 a2 a3 a4 a5 (bt314.2 == bt316.2) t310 t311) else (chargeparklaw30_BidsFurther.j3 k2 l0 l1 a2 a3 a4 a5 false t310 t311)) else (chargeparklaw30_BidsFurther.j3 k2 l0 l1 a2 a3 a4 a5 false t310 t311)) else (chargeparklaw30_BidsFurther.j3 k2 l0 l1 a2 a3 a4 a5 false t310 t311)) else (chargeparklaw30_BidsFurther.j3 k2 l0 l1 a2 a3 a4 a5 false t310 t311)))) = some r := H
                have A51 := Aside0.mk A510
                clear A510
                replace H := Option.bind_eq_some_iff.mp H
                obtain ⟨⟨t314, t315⟩, A520, H⟩ := H
                replace H : ((bids_Delivered.f x16_2 x17_2 (wrap64 (a2 + 1))).bind fun bt316 => (if true = true then (if t310 = t312 then (if t311 = t313 then (if t314 = bt316.1 then (chargeparklaw30_BidsFurther.j3 k2 l0 l1 a2 a3 a4 a5 (t315 == bt316.2) t310 t311) else (chargeparklaw30_BidsFurther.j3 k2 l0 l1 a2 a3 a4 a5 false t310 t311)) else (chargeparklaw30_BidsFurther.j3 k2 l0 l1 a2 a3 a4 a5 false t310 t311)) else (chargeparklaw30_BidsFurther.j3 k2 l0 l1 a2 a3 a4 a5 false t310 t311)) else (chargeparklaw30_BidsFurther.j3 k2 l0 l1 a2 a3 a4 a5 false t310 t311))) = some r := H
                have A52 := Aside0.mk A520
                clear A520
                replace H := Option.bind_eq_some_iff.mp H
                obtain ⟨⟨t316, t317⟩, A530, H⟩ := H
                replace H : (if true = true then (if t310 = t312 then (if t311 = t313 then (if t314 = t316 then (chargeparklaw30_BidsFurther.j3 k2 l0 l1 a2 a3 a4 a5 (t315 == t317) t310 t311) else (chargeparklaw30_BidsFurther.j3 k2 l0 l1 a2 a3 a4 a5 false t310 t311)) else (chargeparklaw30_BidsFurther.j3 k2 l0 l1 a2 a3 a4 a5 false t310 t311)) else (chargeparklaw30_BidsFurther.j3 k2 l0 l1 a2 a3 a4 a5 false t310 t311)) else (chargeparklaw30_BidsFurther.j3 k2 l0 l1 a2 a3 a4 a5 false t310 t311)) = some r := H
                have A53 := Aside0.mk A530
                clear A530
                have HC54 := Aside0.mk H
                clear H
                go_upto_region 26 with (first | ((with_reducible refine gate_callee (f := 11) rfl ?_); refine goesL_ (some 135) rfl rfl Try.func11 (by kernel_rfl) rfl #[.slice A0 l0.length c0, .slice A1 l1.length c1, .int .i64 a2, .int .i64 a3] rfl (by (try simp only [List.map_toArray, List.map_cons, List.map_nil]); first | done | rfl | (simp only [List.length_drop, List.length_take]; rfl)) ?_; (with_reducible refine (bids_Baseline.calls k2 _ _ l0 _ _ l1 a2 a3 t310 t311 _ ?side1 ?side2 ?side3 ?side4 A50.out).mono ?_); (case side1 => repeat (first | exact (Kd.V_reads' HO_0.out).2.2 | (with_reducible refine Kd.C_alloc ?_ _) | (with_reducible refine Kd.C_drewN ?_ _) | (with_reducible refine Kd.C_drew ?_))); (case side2 => exact (Kd.V_reads' HO_0.out).2.1); (case side3 => repeat (first | exact (Kd.C_below HR1.out HB.out) | (with_reducible refine Kd.C_alloc ?_ _) | (with_reducible refine Kd.C_drewN ?_ _) | (with_reducible refine Kd.C_drew ?_))); (case side4 => exact HC1.out); rintro e w55 ⟨rfl, hb⟩; refine ⟨_, rfl, ?_⟩; have n0_ := Aside0.mk (Kd.V_below (by (with_reducible repeat (first | apply Kd.V_alloc | apply Kd.V_drewN | apply Kd.V_drew)); exact HO_0.out) hb); have n1_ := Aside0.mk (Kd.N_below (by (with_reducible repeat (first | apply Kd.N_alloc | apply Kd.N_drewN | apply Kd.N_drew)); exact HO_16.out) hb); have n2_ := Aside0.mk (Kd.R_below (by (with_reducible repeat (first | apply Kd.R_alloc | apply Kd.R_drewN | apply Kd.R_drew)); exact HO_17.out) hb); have n3_ := Aside0.mk (below_step (by repeat (first | (with_reducible first | exact HB.out | apply below_alloc | apply pw_below_drewN | apply below_drew1) | exact HB.out)) hb); clear HO_0; clear HO_16; clear HO_17; clear HB; have HO_0 := n0_; have HO_16 := n1_; have HO_17 := n2_; have HB := n3_; clear n0_ n1_ n2_ n3_; (try clear hb); (try clear hb2); (try clear hk); (try clear hi); obtain ⟨Ao56, co56, eo56⟩ := Kd.N_slice HO_16.out; subst eo56; obtain ⟨Ao57, co57, eo57⟩ := Kd.R_slice HO_17.out; subst eo57) | ((with_reducible refine gate_callee (f := 11) rfl ?_); refine goesL_ (some 144) rfl rfl Try.func11 (by kernel_rfl) rfl #[.slice Ao56 x16_2.length co56, .slice Ao57 x17_2.length co57, .int .i64 (wrap64 (a2 + 1)), .int .i64 a3] rfl (by (try simp only [List.map_toArray, List.map_cons, List.map_nil]); first | done | rfl | (simp only [List.length_drop, List.length_take]; rfl)) ?_; (with_reducible refine (bids_Baseline.calls k2 _ _ x16_2 _ _ x17_2 (wrap64 (a2 + 1)) a3 t312 t313 _ ?side1 ?side2 ?side3 ?side4 A51.out).mono ?_); (case side1 => repeat (first | exact (Kd.N_reads' HO_16.out).2.2 | (with_reducible refine Kd.C_alloc ?_ _) | (with_reducible refine Kd.C_drewN ?_ _) | (with_reducible refine Kd.C_drew ?_))); (case side2 => exact (Kd.N_reads' HO_16.out).2.1); (case side3 => repeat (first | exact (Kd.R_reads' HO_17.out).2.2 | (with_reducible refine Kd.C_alloc ?_ _) | (with_reducible refine Kd.C_drewN ?_ _) | (with_reducible refine Kd.C_drew ?_))); (case side4 => exact (Kd.R_reads' HO_17.out).2.1); rintro e w58 ⟨rfl, hb⟩; refine ⟨_, rfl, ?_⟩; have n0_ := Aside0.mk (Kd.V_below (by (with_reducible repeat (first | apply Kd.V_alloc | apply Kd.V_drewN | apply Kd.V_drew)); exact HO_0.out) hb); have n1_ := Aside0.mk (Kd.N_below (by (with_reducible repeat (first | apply Kd.N_alloc | apply Kd.N_drewN | apply Kd.N_drew)); exact HO_16.out) hb); have n2_ := Aside0.mk (Kd.R_below (by (with_reducible repeat (first | apply Kd.R_alloc | apply Kd.R_drewN | apply Kd.R_drew)); exact HO_17.out) hb); have n3_ := Aside0.mk (below_step (by repeat (first | (with_reducible first | exact HB.out | apply below_alloc | apply pw_below_drewN | apply below_drew1) | exact HB.out)) hb); clear HO_0; clear HO_16; clear HO_17; clear HB; have HO_0 := n0_; have HO_16 := n1_; have HO_17 := n2_; have HB := n3_; clear n0_ n1_ n2_ n3_; (try clear hb); (try clear hb2); (try clear hk); (try clear hi)) | ((with_reducible refine gate_callee (f := 13) rfl ?_); refine goesL_ (some 151) rfl rfl Try.func13 (by kernel_rfl) rfl #[.slice A0 l0.length c0, .slice A1 l1.length c1, .int .i64 a2] rfl (by (try simp only [List.map_toArray, List.map_cons, List.map_nil]); first | done | rfl | (simp only [List.length_drop, List.length_take]; rfl)) ?_; (with_reducible refine (bids_Delivered.calls _ _ l0 _ _ l1 a2 t314 t315 _ ?side1 ?side2 ?side3 ?side4 A52.out).mono ?_); (case side1 => repeat (first | exact (Kd.V_reads' HO_0.out).2.2 | (with_reducible refine Kd.C_alloc ?_ _) | (with_reducible refine Kd.C_drewN ?_ _) | (with_reducible refine Kd.C_drew ?_))); (case side2 => exact (Kd.V_reads' HO_0.out).2.1); (case side3 => repeat (first | exact (Kd.C_below HR1.out HB.out) | (with_reducible refine Kd.C_alloc ?_ _) | (with_reducible refine Kd.C_drewN ?_ _) | (with_reducible refine Kd.C_drew ?_))); (case side4 => exact HC1.out); rintro e w59 ⟨rfl, hb⟩; refine ⟨_, rfl, ?_⟩; have n0_ := Aside0.mk (Kd.V_below (by (with_reducible repeat (first | apply Kd.V_alloc | apply Kd.V_drewN | apply Kd.V_drew)); exact HO_0.out) hb); have n1_ := Aside0.mk (Kd.N_below (by (with_reducible repeat (first | apply Kd.N_alloc | apply Kd.N_drewN | apply Kd.N_drew)); exact HO_16.out) hb); have n2_ := Aside0.mk (Kd.R_below (by (with_reducible repeat (first | apply Kd.R_alloc | apply Kd.R_drewN | apply Kd.R_drew)); exact HO_17.out) hb); have n3_ := Aside0.mk (below_step (by repeat (first | (with_reducible first | exact HB.out | apply below_alloc | apply pw_below_drewN | apply below_drew1) | exact HB.out)) hb); clear HO_0; clear HO_16; clear HO_17; clear HB; have HO_0 := n0_; have HO_16 := n1_; have HO_17 := n2_; have HB := n3_; clear n0_ n1_ n2_ n3_; (try clear hb); (try clear hb2); (try clear hk); (try clear hi)) | ((with_reducible refine gate_callee (f := 13) rfl ?_); refine goesL_ (some 159) rfl rfl Try.func13 (by kernel_rfl) rfl #[.slice Ao56 x16_2.length co56, .slice Ao57 x17_2.length co57, .int .i64 (wrap64 (a2 + 1))] rfl (by (try simp only [List.map_toArray, List.map_cons, List.map_nil]); first | done | rfl | (simp only [List.length_drop, List.length_take]; rfl)) ?_; (with_reducible refine (bids_Delivered.calls _ _ x16_2 _ _ x17_2 (wrap64 (a2 + 1)) t316 t317 _ ?side1 ?side2 ?side3 ?side4 A53.out).mono ?_); (case side1 => repeat (first | exact (Kd.N_reads' HO_16.out).2.2 | (with_reducible refine Kd.C_alloc ?_ _) | (with_reducible refine Kd.C_drewN ?_ _) | (with_reducible refine Kd.C_drew ?_))); (case side2 => exact (Kd.N_reads' HO_16.out).2.1); (case side3 => repeat (first | exact (Kd.R_reads' HO_17.out).2.2 | (with_reducible refine Kd.C_alloc ?_ _) | (with_reducible refine Kd.C_drewN ?_ _) | (with_reducible refine Kd.C_drew ?_))); (case side4 => exact (Kd.R_reads' HO_17.out).2.1); rintro e w60 ⟨rfl, hb⟩; refine ⟨_, rfl, ?_⟩; have n0_ := Aside0.mk (Kd.V_below (by (with_reducible repeat (first | apply Kd.V_alloc | apply Kd.V_drewN | apply Kd.V_drew)); exact HO_0.out) hb); have n1_ := Aside0.mk (Kd.N_below (by (with_reducible repeat (first | apply Kd.N_alloc | apply Kd.N_drewN | apply Kd.N_drew)); exact HO_16.out) hb); have n2_ := Aside0.mk (Kd.R_below (by (with_reducible repeat (first | apply Kd.R_alloc | apply Kd.R_drewN | apply Kd.R_drew)); exact HO_17.out) hb); have n3_ := Aside0.mk (below_step (by repeat (first | (with_reducible first | exact HB.out | apply below_alloc | apply pw_below_drewN | apply below_drew1) | exact HB.out)) hb); clear HO_0; clear HO_16; clear HO_17; clear HB; have HO_0 := n0_; have HO_16 := n1_; have HO_17 := n2_; have HB := n3_; clear n0_ n1_ n2_ n3_; (try clear hb); (try clear hb2); (try clear hk); (try clear hi)))
                (try simp only [Act.put, List.setIfInBounds_toArray, List.set_cons_zero, List.set_cons_succ])
                go_cut [13] (fun v13 wc => ∃ (kq : Nat) (x13_53 : Bool), v13 = .bool x13_53 ∧ Aside0 (chargeparklaw30_BidsFurther.j3 kq l0 l1 a2 a3 a4 a5 x13_53 t310 t311 = some r) ∧ Aside0 (kq ≤ k2) ∧ Aside0 (Kd.V (Kd.slice 3 (Kd.int .i64)) 33 wc w.heap.size (fun k_ => (P0_ k_ ∨ w.heap.size ≤ k_)) (.slice A0 l0.length c0) l0) ∧ Aside0 (Below w.heap.size w wc))
                case first => as_aux_lemma =>
                  have H := HC54.out
                  clear HC54
                  by_cases c61 : (true = true)
                  · clear c61
                    have H1 : (if t310 = t312 then (if t311 = t313 then (if t314 = t316 then (chargeparklaw30_BidsFurther.j3 k2 l0 l1 a2 a3 a4 a5 (t315 == t317) t310 t311) else (chargeparklaw30_BidsFurther.j3 k2 l0 l1 a2 a3 a4 a5 false t310 t311)) else (chargeparklaw30_BidsFurther.j3 k2 l0 l1 a2 a3 a4 a5 false t310 t311)) else (chargeparklaw30_BidsFurther.j3 k2 l0 l1 a2 a3 a4 a5 false t310 t311)) = some r := by first | (rw [if_pos rfl] at H; exact H) | (rw [if_pos trivial] at H; exact H)
                    clear H
                    have H := H1
                    clear H1
                    by_cases c62 : t310 = t312
                    · rw [if_pos c62] at H
                      have c62b0 : (t310 == t312) = true := beq_iff_eq.mpr c62
                      have c62b1 : (t310 != t312) = false := bne_eq_false_iff_eq.mpr c62
                      clear c62
                      (first | rw [c62b0] | (simp only [i64_w, i32_w]; rw [c62b0]) | skip)
                      by_cases c63 : t311 = t313
                      · rw [if_pos c63] at H
                        have c63b0 : (t311 == t313) = true := beq_iff_eq.mpr c63
                        have c63b1 : (t311 != t313) = false := bne_eq_false_iff_eq.mpr c63
                        clear c63
                        by_cases c64 : t314 = t316
                        · rw [if_pos c64] at H
                          have c64b0 : (t314 == t316) = true := beq_iff_eq.mpr c64
                          have c64b1 : (t314 != t316) = false := bne_eq_false_iff_eq.mpr c64
                          clear c64
                          have H' := Aside0.mk H
                          clear H
                          go_wp2
                          go_meet
                          case rel => exact ⟨_, ((t315 == t317)), (by first | rfl | (simp; done) | (simp [*]; done)), H', ⟨by have := HJ8.out; have := HK2.out; first | omega | exact Nat.le_refl _⟩, ⟨by (with_reducible repeat (first | apply Kd.V_alloc | apply Kd.V_drewN | apply Kd.V_drew)); exact Kd.V_mono HO_0.out (fun _ hk => hk.1)⟩, ⟨by repeat (first | (with_reducible first | exact HB.out | apply below_alloc | apply pw_below_drewN | apply below_drew1) | exact HB.out)⟩⟩
                        · rw [if_neg c64] at H
                          have c64b0 : (t314 == t316) = false := beq_eq_false_iff_ne.mpr c64
                          have c64b1 : (t314 != t316) = true := bne_iff_ne.mpr c64
                          have H' := Aside0.mk H
                          clear H
                          go_wp2
                          go_meet
                          case rel => exact ⟨_, (false), (by first | rfl | (simp; done) | (simp [*]; done)), H', ⟨by have := HJ8.out; have := HK2.out; first | omega | exact Nat.le_refl _⟩, ⟨by (with_reducible repeat (first | apply Kd.V_alloc | apply Kd.V_drewN | apply Kd.V_drew)); exact Kd.V_mono HO_0.out (fun _ hk => hk.1)⟩, ⟨by repeat (first | (with_reducible first | exact HB.out | apply below_alloc | apply pw_below_drewN | apply below_drew1) | exact HB.out)⟩⟩
                      · rw [if_neg c63] at H
                        have c63b0 : (t311 == t313) = false := beq_eq_false_iff_ne.mpr c63
                        have c63b1 : (t311 != t313) = true := bne_iff_ne.mpr c63
                        have H' := Aside0.mk H
                        clear H
                        go_wp2
                        go_meet
                        case rel => exact ⟨_, (false), (by first | rfl | (simp; done) | (simp [*]; done)), H', ⟨by have := HJ8.out; have := HK2.out; first | omega | exact Nat.le_refl _⟩, ⟨by (with_reducible repeat (first | apply Kd.V_alloc | apply Kd.V_drewN | apply Kd.V_drew)); exact Kd.V_mono HO_0.out (fun _ hk => hk.1)⟩, ⟨by repeat (first | (with_reducible first | exact HB.out | apply below_alloc | apply pw_below_drewN | apply below_drew1) | exact HB.out)⟩⟩
                    · rw [if_neg c62] at H
                      have c62b0 : (t310 == t312) = false := beq_eq_false_iff_ne.mpr c62
                      have c62b1 : (t310 != t312) = true := bne_iff_ne.mpr c62
                      (first | rw [c62b0] | (simp only [i64_w, i32_w]; rw [c62b0]) | skip)
                      have H' := Aside0.mk H
                      clear H
                      go_wp2
                      go_meet
                      case rel => exact ⟨_, (false), (by first | rfl | (simp; done) | (simp [*]; done)), H', ⟨by have := HJ8.out; have := HK2.out; first | omega | exact Nat.le_refl _⟩, ⟨by (with_reducible repeat (first | apply Kd.V_alloc | apply Kd.V_drewN | apply Kd.V_drew)); exact Kd.V_mono HO_0.out (fun _ hk => hk.1)⟩, ⟨by repeat (first | (with_reducible first | exact HB.out | apply below_alloc | apply pw_below_drewN | apply below_drew1) | exact HB.out)⟩⟩
                  · exact absurd rfl c61
                case rest => as_aux_lemma =>
                  clear HC54
                  try clear c1
                  try clear c2
                  try clear p2
                  try clear q2
                  try clear hx2
                  try clear qi2
                  try clear c3
                  try clear p3
                  try clear q3
                  try clear hx3
                  try clear c4
                  try clear c6
                  try clear p6
                  try clear c8
                  try clear c9
                  try clear c11
                  try clear c12
                  try clear c12b0
                  try clear c12b1
                  try clear c13
                  try clear c13b0
                  try clear c14
                  try clear c14b0
                  try clear c15
                  try clear c15b0
                  try clear c16
                  try clear c16b0
                  try clear c16b1
                  try clear c17
                  try clear c17b0
                  try clear c18
                  try clear c18b0
                  try clear c19
                  try clear c19b0
                  try clear c20
                  try clear c21
                  try clear c21b0
                  try clear c21b1
                  try clear c22
                  try clear c22b0
                  try clear c23
                  try clear c23b0
                  try clear c23b1
                  try clear c24
                  try clear c24b0
                  try clear c24b1
                  try clear c25
                  try clear c25b0
                  try clear c26
                  try clear c28
                  try clear p28
                  try clear q28
                  try clear hx28
                  try clear qi28
                  try clear c29
                  try clear p29
                  try clear q29
                  try clear hx29
                  try clear c30
                  try clear c30b0
                  try clear p30
                  try clear q30
                  try clear hx30
                  try clear c31
                  try clear c31b0
                  try clear c32
                  try clear c33
                  try clear c33b0
                  try clear c34
                  try clear c43
                  try clear c43b0
                  try clear c44
                  try clear c44b0
                  try clear c45
                  try clear c46
                  try clear c46b0
                  try clear c47
                  try clear c61
                  try clear c62
                  try clear c62b0
                  try clear c62b1
                  try clear c63
                  try clear c63b0
                  try clear c63b1
                  try clear c64
                  try clear c64b0
                  try clear c64b1
                  try clear p64
                  try clear hx283_0
                  try clear hx284_0
                  try clear hx294_0
                  try clear hx298_0
                  try clear hx302_0
                  try clear hx306_0
                  try clear p2
                  try clear p283
                  try clear p284
                  try clear p294
                  try clear p298
                  try clear p302
                  try clear p306
                  try clear p6
                  try clear q2
                  try clear q283
                  try clear q284
                  try clear q294
                  try clear q298
                  try clear q302
                  try clear q306
                  obtain ⟨kq, x13_53, rfl, HA, HJ53, HO_0, HB⟩ := hcut
                  cases kq with
                  | zero => exact absurd HA.out (by simp [chargeparklaw30_BidsFurther.j3])
                  | succ kj53 =>
                    have H := HA.out
                    clear HA
                    simp only [chargeparklaw30_BidsFurther.j3] at H
                    replace H := Option.bind_eq_some_iff.mp H
                    obtain ⟨t318, A650, H⟩ := H
                    replace H : (if (l0.length : Int) = 0 then (none) else ((chargeparklaw30_counts.f kj53 l1 (Int.tmod a4 (l0.length : Int)) a2).bind fun t321 => (if t321 = true then ((chargeparklaw30_counts.f kj53 l1 (Int.tmod a5 (l0.length : Int)) a2).bind fun t322 => (if t322 = true then (if 0 ≤ (Int.tmod a5 (l0.length : Int)) then (if (Int.tmod a5 (l0.length : Int)) < (t318.length : Int) then (if 0 ≤ (Int.tmod a4 (l0.length : Int)) then (if (Int.tmod a4 (l0.length : Int)) < (t318.length : Int) then ((bids_Baseline.f kj53 ((t318.set ((Int.tmod a4 (l0.length : Int)) : Int).toNat (rd_L1 t318 (Int.tmod a5 (l0.length : Int)))).set ((Int.tmod a5 (l0.length : Int)) : Int).toNat (rd_L1 t318 (Int.tmod a4 (l0.length : Int)))) l1 a2 a3).bind fun bt327 => (if x13_53 = true then (if bt327.1 = t310 then (some (bt327.2 == t311)) else (some false)) else (some false))) else (none)) else (none)) else (none)) else (none)) else ((bids_Baseline.f kj53 t318 l1 a2 a3).bind fun bt329 => (if x13_53 = true then (if bt329.1 = t310 then (some (bt329.2 == t311)) else (some false)) else (some false))))) else ((bids_Baseline.f kj53 t318 l1 a2 a3).bind fun bt331 => (if x13_53 = true then (if bt331.1 = t310 then (some (bt331.2 == t311)) else (some false)) else (some false)))))) = some r := H
                    have A65 := Aside0.mk A650
                    clear A650
                    by_cases c66 : (l0.length : Int) = 0
                    · as_aux_lemma =>
                      rw [if_pos c66] at H
                      exact absurd H (by simp)
                    · as_aux_lemma =>
                      rw [if_neg c66] at H
                      have c66b0 : ((l0.length : Int) == 0) = false := beq_eq_false_iff_ne.mpr c66
                      have c66b1 : ((l0.length : Int) != 0) = true := bne_iff_ne.mpr c66
                      have c66b2 : ¬ (l0 = []) := fun h_ => c66 (by rw [h_]; rfl)
                      replace H := Option.bind_eq_some_iff.mp H
                      obtain ⟨t321, A670, H⟩ := H
                      replace H : (if t321 = true then ((chargeparklaw30_counts.f kj53 l1 (Int.tmod a5 (l0.length : Int)) a2).bind fun t322 => (if t322 = true then (if 0 ≤ (Int.tmod a5 (l0.length : Int)) then (if (Int.tmod a5 (l0.length : Int)) < (t318.length : Int) then (if 0 ≤ (Int.tmod a4 (l0.length : Int)) then (if (Int.tmod a4 (l0.length : Int)) < (t318.length : Int) then ((bids_Baseline.f kj53 ((t318.set ((Int.tmod a4 (l0.length : Int)) : Int).toNat (rd_L1 t318 (Int.tmod a5 (l0.length : Int)))).set ((Int.tmod a5 (l0.length : Int)) : Int).toNat (rd_L1 t318 (Int.tmod a4 (l0.length : Int)))) l1 a2 a3).bind fun bt327 => (if x13_53 = true then (if bt327.1 = t310 then (some (bt327.2 == t311)) else (some false)) else (some false))) else (none)) else (none)) else (none)) else (none)) else ((bids_Baseline.f kj53 t318 l1 a2 a3).bind fun bt329 => (if x13_53 = true then (if bt329.1 = t310 then (some (bt329.2 == t311)) else (some false)) else (some false))))) else ((bids_Baseline.f kj53 t318 l1 a2 a3).bind fun bt331 => (if x13_53 = true then (if bt331.1 = t310 then (some (bt331.2 == t311)) else (some false)) else (some false)))) = some r := H
                      have A67 := Aside0.mk A670
                      clear A670
                      by_cases c68 : t321 = true
                      · as_aux_lemma =>
                        subst c68
                        have H1 : ((chargeparklaw30_counts.f kj53 l1 (Int.tmod a5 (l0.length : Int)) a2).bind fun t322 => (if t322 = true then (if 0 ≤ (Int.tmod a5 (l0.length : Int)) then (if (Int.tmod a5 (l0.length : Int)) < (t318.length : Int) then (if 0 ≤ (Int.tmod a4 (l0.length : Int)) then (if (Int.tmod a4 (l0.length : Int)) < (t318.length : Int) then ((bids_Baseline.f kj53 ((t318.set ((Int.tmod a4 (l0.length : Int)) : Int).toNat (rd_L1 t318 (Int.tmod a5 (l0.length : Int)))).set ((Int.tmod a5 (l0.length : Int)) : Int).toNat (rd_L1 t318 (Int.tmod a4 (l0.length : Int)))) l1 a2 a3).bind fun bt327 => (if x13_53 = true then (if bt327.1 = t310 then (some (bt327.2 == t311)) else (some false)) else (some false))) else (none)) else (none)) else (none)) else (none)) else ((bids_Baseline.f kj53 t318 l1 a2 a3).bind fun bt329 => (if x13_53 = true then (if bt329.1 = t310 then (some (bt329.2 == t311)) else (some false)) else (some false))))) = some r := by first | (rw [if_pos rfl] at H; exact H) | (rw [if_pos trivial] at H; exact H)
                        clear H
                        have H := H1
                        clear H1
                        replace H := Option.bind_eq_some_iff.mp H
                        obtain ⟨t322, A690, H⟩ := H
                        replace H : (if t322 = true then (if 0 ≤ (Int.tmod a5 (l0.length : Int)) then (if (Int.tmod a5 (l0.length : Int)) < (t318.length : Int) then (if 0 ≤ (Int.tmod a4 (l0.length : Int)) then (if (Int.tmod a4 (l0.length : Int)) < (t318.length : Int) then ((bids_Baseline.f kj53 ((t318.set ((Int.tmod a4 (l0.length : Int)) : Int).toNat (rd_L1 t318 (Int.tmod a5 (l0.length : Int)))).set ((Int.tmod a5 (l0.length : Int)) : Int).toNat (rd_L1 t318 (Int.tmod a4 (l0.length : Int)))) l1 a2 a3).bind fun bt327 => (if x13_53 = true then (if bt327.1 = t310 then (some (bt327.2 == t311)) else (some false)) else (some false))) else (none)) else (none)) else (none)) else (none)) else ((bids_Baseline.f kj53 t318 l1 a2 a3).bind fun bt329 => (if x13_53 = true then (if bt329.1 = t310 then (some (bt329.2 == t311)) else (some false)) else (some false)))) = some r := H
                        have A69 := Aside0.mk A690
                        clear A690
                        by_cases c70 : t322 = true
                        · as_aux_lemma =>
                          subst c70
                          have H1 : (if 0 ≤ (Int.tmod a5 (l0.length : Int)) then (if (Int.tmod a5 (l0.length : Int)) < (t318.length : Int) then (if 0 ≤ (Int.tmod a4 (l0.length : Int)) then (if (Int.tmod a4 (l0.length : Int)) < (t318.length : Int) then ((bids_Baseline.f kj53 ((t318.set ((Int.tmod a4 (l0.length : Int)) : Int).toNat (rd_L1 t318 (Int.tmod a5 (l0.length : Int)))).set ((Int.tmod a5 (l0.length : Int)) : Int).toNat (rd_L1 t318 (Int.tmod a4 (l0.length : Int)))) l1 a2 a3).bind fun bt327 => (if x13_53 = true then (if bt327.1 = t310 then (some (bt327.2 == t311)) else (some false)) else (some false))) else (none)) else (none)) else (none)) else (none)) = some r := by first | (rw [if_pos rfl] at H; exact H) | (rw [if_pos trivial] at H; exact H)
                          clear H
                          have H := H1
                          clear H1
                          obtain ⟨ji71, hji71⟩ : ∃ j_ : Int, (Int.tmod a5 (l0.length : Int)) = j_ := ⟨_, rfl⟩
                          replace H : (if 0 ≤ (ji71) then (if (ji71) < (t318.length : Int) then (if 0 ≤ (Int.tmod a4 (l0.length : Int)) then (if (Int.tmod a4 (l0.length : Int)) < (t318.length : Int) then ((bids_Baseline.f kj53 ((t318.set ((Int.tmod a4 (l0.length : Int)) : Int).toNat (rd_L1 t318 (ji71))).set ((ji71) : Int).toNat (rd_L1 t318 (Int.tmod a4 (l0.length : Int)))) l1 a2 a3).bind fun bt327 => (if x13_53 = true then (if bt327.1 = t310 then (some (bt327.2 == t311)) else (some false)) else (some false))) else (none)) else (none)) else (none)) else (none)) = some r := by first | (rw [hji71] at H; exact H) | (simp only [hji71] at H ⊢; exact H)
                          (try rw [hji71] at A65)
                          (try rw [hji71] at A67)
                          (try rw [hji71] at A69)
                          by_cases c72 : 0 ≤ (ji71)
                          · rw [if_pos c72] at H
                            have c72b0 : decide (0 ≤ (ji71)) = true := decide_eq_true c72
                            clear c72
                            by_cases c73 : (ji71) < (t318.length : Int)
                            · rw [if_pos c73] at H
                              have c73b0 : decide ((ji71) < (t318.length : Int)) = true := decide_eq_true c73
                              clear c73
                              obtain ⟨ji74, hji74⟩ : ∃ j_ : Int, (Int.tmod a4 (l0.length : Int)) = j_ := ⟨_, rfl⟩
                              replace H : (if 0 ≤ (ji74) then (if (ji74) < (t318.length : Int) then ((bids_Baseline.f kj53 ((t318.set ((ji74) : Int).toNat (rd_L1 t318 (ji71))).set ((ji71) : Int).toNat (rd_L1 t318 (ji74))) l1 a2 a3).bind fun bt327 => (if x13_53 = true then (if bt327.1 = t310 then (some (bt327.2 == t311)) else (some false)) else (some false))) else (none)) else (none)) = some r := by first | (rw [hji74] at H; exact H) | (simp only [hji74] at H ⊢; exact H)
                              (try rw [hji74] at A65)
                              (try rw [hji74] at A67)
                              (try rw [hji74] at A69)
                              by_cases c75 : 0 ≤ (ji74)
                              · rw [if_pos c75] at H
                                have c75b0 : decide (0 ≤ (ji74)) = true := decide_eq_true c75
                                clear c75
                                by_cases c76 : (ji74) < (t318.length : Int)
                                · as_aux_lemma =>
                                  rw [if_pos c76] at H
                                  have c76b0 : decide ((ji74) < (t318.length : Int)) = true := decide_eq_true c76
                                  clear c76
                                  obtain ⟨y325, hy325⟩ : ∃ y_ : List (List Int), y_ = (t318.set ((ji74) : Int).toNat (rd_L1 t318 (ji71))) := ⟨_, rfl⟩
                                  replace H : ((bids_Baseline.f kj53 (y325.set ((ji71) : Int).toNat (rd_L1 t318 (ji74))) l1 a2 a3).bind fun bt327 => (if x13_53 = true then (if bt327.1 = t310 then (some (bt327.2 == t311)) else (some false)) else (some false))) = some r := by first | (rw [hy325]; with_reducible exact H) | (have H2_ := (Option.bind_some _ _).symm.trans H; rw [hy325]; with_reducible exact H2_) | (have H2_ := (Option.bind_some _ _).symm.trans H; with_reducible exact H2_) | with_reducible exact H | (rw [hy325]; exact H) | exact H
                                  have Ny325 := Aside0.mk hy325
                                  clear hy325
                                  obtain ⟨y326, hy326⟩ : ∃ y_ : List (List Int), y_ = (y325.set ((ji71) : Int).toNat (rd_L1 t318 (ji74))) := ⟨_, rfl⟩
                                  replace H : ((bids_Baseline.f kj53 y326 l1 a2 a3).bind fun bt327 => (if x13_53 = true then (if bt327.1 = t310 then (some (bt327.2 == t311)) else (some false)) else (some false))) = some r := by first | (rw [hy326]; with_reducible exact H) | (have H2_ := (Option.bind_some _ _).symm.trans H; rw [hy326]; with_reducible exact H2_) | (have H2_ := (Option.bind_some _ _).symm.trans H; with_reducible exact H2_) | with_reducible exact H | (rw [hy326]; exact H) | exact H
                                  have Ny326 := Aside0.mk hy326
                                  clear hy326
                                  replace H := Option.bind_eq_some_iff.mp H
                                  obtain ⟨⟨t327, t328⟩, A790, H⟩ := H
                                  replace H : (if x13_53 = true then (if t327 = t310 then (some (t328 == t311)) else (some false)) else (some false)) = some r := H
                                  have A79 := Aside0.mk A790
                                  clear A790
                                  by_cases c80 : x13_53 = true
                                  · as_aux_lemma =>
                                    subst c80
                                    have H1 : (if t327 = t310 then (some (t328 == t311)) else (some false)) = some r := by first | (rw [if_pos rfl] at H; exact H) | (rw [if_pos trivial] at H; exact H)
                                    clear H
                                    have H := H1
                                    clear H1
                                    by_cases c81 : t327 = t310
                                    · as_aux_lemma =>
                                      rw [if_pos c81] at H
                                      have c81b0 : (t327 == t310) = true := beq_iff_eq.mpr c81
                                      have c81b1 : (t327 != t310) = false := bne_eq_false_iff_eq.mpr c81
                                      clear c81
                                      obtain rfl := Option.some.inj H
                                      simp only [Option.some.injEq, Prod.mk.injEq] at H
                                      obtain ⟨rfl⟩ := H
                                      try go_wp2_with (first | ((with_reducible refine gate_callee (f := 17) rfl ?_); refine goesL_ (some 184) rfl rfl Try.func17 (by kernel_rfl) rfl #[.slice A0 l0.length c0] rfl (by (try simp only [List.map_toArray, List.map_cons, List.map_nil]); first | done | rfl | (simp only [List.length_drop, List.length_take]; rfl)) ?_; (with_reducible refine (chargeparkref30_Copy.calls kj53 _ _ l0 t318 _ ?side1 ?side2 A65.out).mono ?_); (case side1 => repeat (first | exact (Kd.V_reads' HO_0.out).2.2 | (with_reducible refine Kd.C_alloc ?_ _) | (with_reducible refine Kd.C_drewN ?_ _) | (with_reducible refine Kd.C_drew ?_))); (case side2 => exact (Kd.V_reads' HO_0.out).2.1); rintro e w82 ⟨v319, rfl, ho0, hb⟩; refine ⟨_, rfl, ?_⟩; have n0_ := Aside0.mk (Kd.V_elder' (by (with_reducible repeat (first | apply Kd.V_alloc | apply Kd.V_drewN | apply Kd.V_drew)); exact HO_0.out) (Kd.N_base (Kd.S_N ho0)) hb); have n1_ := Aside0.mk (Kd.N_lower (Kd.N_mono (ok' := fun k_ => (P0_ k_ ∨ w.heap.size ≤ k_)) (Kd.S_N (Kd.S_bound ho0)) (fun k_ hk_ => (.inr (Nat.le_trans (below_size (by repeat (first | (with_reducible first | exact HB.out | apply below_alloc | apply pw_below_drewN | apply below_drew1) | exact HB.out))) hk_.2.1)))) (below_size (by repeat (first | (with_reducible first | exact HB.out | apply below_alloc | apply pw_below_drewN | apply below_drew1) | exact HB.out)))); have n2_ := Aside0.mk (below_step (by repeat (first | (with_reducible first | exact HB.out | apply below_alloc | apply pw_below_drewN | apply below_drew1) | exact HB.out)) hb); clear HO_0; clear HB; have HO_0 := n0_; have HO320 := n1_; have HB := n2_; clear n0_ n1_ n2_; (try clear hb); (try clear hb2); (try clear hk); (try clear hi); (try clear ho0)) | ((with_reducible refine gate_callee (f := 16) rfl ?_); refine goesL_ (some 196) rfl rfl Try.func16 (by kernel_rfl) rfl #[.slice A1 l1.length c1, .int .i64 ji74, .int .i64 a2] rfl (by (try simp only [List.map_toArray, List.map_cons, List.map_nil]); first | done | (simp only [hji74]; rfl) | rfl | (simp only [List.length_drop, List.length_take]; rfl)) ?_; (with_reducible refine (chargeparklaw30_counts.calls kj53 _ _ l1 ji74 a2 true _ ?side1 ?side2 A67.out).mono ?_); (case side1 => repeat (first | exact (Kd.C_below HR1.out HB.out) | (with_reducible refine Kd.C_alloc ?_ _) | (with_reducible refine Kd.C_drewN ?_ _) | (with_reducible refine Kd.C_drew ?_))); (case side2 => exact HC1.out); rintro e w' ⟨rfl, ⟨nd, rfl⟩⟩; refine ⟨_, rfl, ?_⟩; (try (rw [drewN_self w82]; generalize hq_ : World.drewN w82 _ = w82; have n0_ : Aside0 (Kd.N (Kd.slice 3 (Kd.int .i64)) 33 w82 w.heap.size (fun k_ => (P0_ k_ ∨ w.heap.size ≤ k_)) v319 t318) := ⟨by rw [← hq_]; exact (by (with_reducible repeat (first | apply Kd.N_alloc | apply Kd.N_drewN | apply Kd.N_drew)); exact HO320.out)⟩; have n1_ : Aside0 (Kd.V (Kd.slice 3 (Kd.int .i64)) 33 w82 w.heap.size (fun k_ => (P0_ k_ ∨ w.heap.size ≤ k_) ∧ some k_ ≠ (v319 : Value).ownBlock) (.slice A0 l0.length c0) l0) := ⟨by rw [← hq_]; exact (by (with_reducible repeat (first | apply Kd.V_alloc | apply Kd.V_drewN | apply Kd.V_drew)); exact HO_0.out)⟩; have n2_ : Aside0 (Below w.heap.size w w82) := ⟨by rw [← hq_]; exact (by repeat (first | (with_reducible first | exact HB.out | apply below_alloc | apply pw_below_drewN | apply below_drew1) | exact HB.out))⟩; clear HO320 HO_0 HB hq_; have HO320 := n0_; have HO_0 := n1_; have HB := n2_; clear n0_ n1_ n2_))) | (go_at_call 16; (with_reducible refine (chargeparklaw30_counts.calls kj53 _ _ l1 ji71 a2 true _ ?side1 ?side2 A69.out).mono ?_); (case side1 => repeat (first | exact (Kd.C_below HR1.out HB.out) | (with_reducible refine Kd.C_alloc ?_ _) | (with_reducible refine Kd.C_drewN ?_ _) | (with_reducible refine Kd.C_drew ?_))); (case side2 => exact HC1.out); rintro e w' ⟨rfl, ⟨nd, rfl⟩⟩; (try (rw [drewN_self w82]; generalize hq_ : World.drewN w82 _ = w82; have n0_ : Aside0 (Kd.N (Kd.slice 3 (Kd.int .i64)) 33 w82 w.heap.size (fun k_ => (P0_ k_ ∨ w.heap.size ≤ k_)) v319 t318) := ⟨by rw [← hq_]; exact (by (with_reducible repeat (first | apply Kd.N_alloc | apply Kd.N_drewN | apply Kd.N_drew)); exact HO320.out)⟩; have n1_ : Aside0 (Kd.V (Kd.slice 3 (Kd.int .i64)) 33 w82 w.heap.size (fun k_ => (P0_ k_ ∨ w.heap.size ≤ k_) ∧ some k_ ≠ (v319 : Value).ownBlock) (.slice A0 l0.length c0) l0) := ⟨by rw [← hq_]; exact (by (with_reducible repeat (first | apply Kd.V_alloc | apply Kd.V_drewN | apply Kd.V_drew)); exact HO_0.out)⟩; have n2_ : Aside0 (Below w.heap.size w w82) := ⟨by rw [← hq_]; exact (by repeat (first | (with_reducible first | exact HB.out | apply below_alloc | apply pw_below_drewN | apply below_drew1) | exact HB.out))⟩; clear HO320 HO_0 HB hq_; have HO320 := n0_; have HO_0 := n1_; have HB := n2_; clear n0_ n1_ n2_))))
                                      have n0_ := Aside0.mk (Kd.V_drew HO_0.out)
                                      have n1_ := Aside0.mk (Kd.N_drew HO320.out)
                                      have n2_ := Aside0.mk (below_drew1 HB.out)
                                      clear HO_0
                                      clear HO320
                                      clear HB
                                      have HO_0 := n0_
                                      have HO320 := n1_
                                      have HB := n2_
                                      clear n0_ n1_ n2_
                                      obtain ⟨Ao84, co84, eo84⟩ := Kd.N_slice HO320.out
                                      (first | subst eo84 | (injection eo84 with f1_ f2_ f3_; have f4_ := f1_.symm; have f5_ := f3_.symm; clear f1_ f2_ f3_; subst f4_; subst f5_))
                                      have p323 : 0 ≤ ((ji71) : Int) := of_decide_eq_true (by first | (with_reducible assumption) | assumption)
                                      have q323 : (ji71) < (t318.length : Int) := of_decide_eq_true (by first | (with_reducible assumption) | assumption)
                                      obtain ⟨ad323, A323_0, c323_0, e323, hx323_0, hl323_0, hi323_0⟩ := at_L1 (Kd.N_reads' HO320.out).2.2 (ji71) p323 q323
                                      cases e323
                                      obtain ⟨ce323, hce323, hMe323, hcc323⟩ := Kd.N_get HO320.out [] (ji71) p323 (by first | exact q323 | exact of_decide_eq_true (by first | (with_reducible assumption) | assumption) | (have e_ := (Kd.N_reads' HO320.out).1; omega))
                                      obtain ⟨ua323_0, uc323_0, rfl, ul323_0, ge323_0⟩ := Kd.FK_slice_open hMe323
                                      have hv323_0 := hcc323 0 _ rfl
                                      rw [Nat.add_zero, show ((Kd.slice 3 (Kd.int .i64))).sz = 1 from rfl, Nat.mul_one] at hv323_0
                                      replace hv323_0 := Option.some.inj (hv323_0.symm.trans hx323_0)
                                      injection hv323_0 with hva_ hvn_ hvc_
                                      rw [hva_] at ge323_0
                                      rw [hvc_] at ul323_0
                                      have HL323_0 := Aside0.mk (show Kd.V (Kd.int .i64) 3 _ w.heap.size _ _ (rd_L1 t318 (ji71)) from Kd.V_mk ul323_0 ge323_0)
                                      clear hva_ hvn_ hvc_ ge323_0 ul323_0
                                      clear hcc323 hce323
                                      have HR323_0 := Aside0.mk hi323_0
                                      have HC323_0 := Aside0.mk hl323_0
                                      clear hi323_0 hl323_0
                                      replace p323 := eq_true p323
                                      replace q323 := eq_true q323
                                      have p324 : 0 ≤ ((ji74) : Int) := of_decide_eq_true (by first | (with_reducible assumption) | assumption)
                                      have q324 : (ji74) < (t318.length : Int) := of_decide_eq_true (by first | (with_reducible assumption) | assumption)
                                      obtain ⟨ad324, A324_0, c324_0, e324, hx324_0, hl324_0, hi324_0⟩ := at_L1 (Kd.N_reads' HO320.out).2.2 (ji74) p324 q324
                                      obtain rfl : ad323 = ad324 := (by injection e324)
                                      obtain ⟨ce324, hce324, hMe324, hcc324⟩ := Kd.N_get HO320.out [] (ji74) p324 (by first | exact q324 | exact of_decide_eq_true (by first | (with_reducible assumption) | assumption) | (have e_ := (Kd.N_reads' HO320.out).1; omega))
                                      obtain ⟨ua324_0, uc324_0, rfl, ul324_0, ge324_0⟩ := Kd.FK_slice_open hMe324
                                      have hv324_0 := hcc324 0 _ rfl
                                      rw [Nat.add_zero, show ((Kd.slice 3 (Kd.int .i64))).sz = 1 from rfl, Nat.mul_one] at hv324_0
                                      replace hv324_0 := Option.some.inj (hv324_0.symm.trans hx324_0)
                                      injection hv324_0 with hva_ hvn_ hvc_
                                      rw [hva_] at ge324_0
                                      rw [hvc_] at ul324_0
                                      have HL324_0 := Aside0.mk (show Kd.V (Kd.int .i64) 3 _ w.heap.size _ _ (rd_L1 t318 (ji74)) from Kd.V_mk ul324_0 ge324_0)
                                      clear hva_ hvn_ hvc_ ge324_0 ul324_0
                                      clear hcc324 hce324
                                      have HR324_0 := Aside0.mk hi324_0
                                      have HC324_0 := Aside0.mk hl324_0
                                      clear hi324_0 hl324_0
                                      replace p324 := eq_true p324
                                      replace q324 := eq_true q324
                                      have p77 : 0 ≤ ((ji74) : Int) := of_decide_eq_true (by first | (with_reducible assumption) | assumption)
                                      have q77 : ((ji74) : Int) < ((t318.length : Int) : Int) := of_decide_eq_true (by first | (with_reducible assumption) | assumption)
                                      obtain ⟨go77, co77, eo77, gb77, gl77, cl77, HG77⟩ := Kd.N_form HO320.out (by omega)
                                      (first | cases eo77 | (injection eo77 with ea_ en_ ec_; (first | subst ea_ | (injection ea_ with ea_; subst ea_)); subst ec_; clear en_))
                                      have GB77 := Aside0.mk gb77
                                      have GG77 := Aside0.mk HG77
                                      clear gb77 gl77 HG77
                                      (first | simp only [add_plain] at hx323_0 | skip)
                                      (first | simp only [add_plain] at hx324_0 | skip)
                                      obtain ⟨ce77, hcl77, hM77, hcc77, hfr77⟩ := Kd.N_elem HO320.out [] ((ji74) : Int) p77 q77
                                      obtain ⟨ua77_0, uc77_0, rfl, ul77_0, ge77_0⟩ := Kd.FK_slice_open hM77
                                      have hx77_0 := hcc77 0 _ rfl
                                      have hf77_0 := hfr77 0
                                      (try simp only [show ((Kd.slice 3 (Kd.int .i64))).sz = 1 from rfl, Nat.mul_one, Nat.add_zero] at hx77_0)
                                      (try simp only [show ((Kd.slice 3 (Kd.int .i64))).sz = 1 from rfl, Nat.mul_one, Nat.add_zero] at hf77_0)
                                      clear hcl77 hcc77 hfr77 hM77
                                      replace p77 := eq_true p77
                                      replace q77 := eq_true q77
                                      have HX85 := Aside0.mk (show Kd.N (Kd.slice 3 (Kd.int .i64)) 33 _ w.heap.size (fun k_ => (P0_ k_ ∨ w.heap.size ≤ k_)) (.slice (some ⟨go77, 0, none⟩) t318.length co84) t318 from (Kd.N_mono (HO320.out) (fun k_ hk => hk)))
                                      obtain ⟨ce85, hcl85, hM85, hcc85, hfr85⟩ := Kd.N_elem HX85.out [] ((ji74) : Int) (of_decide_eq_true (by first | (with_reducible assumption) | assumption)) (by have h_ : ((ji74) : Int) < ((t318.length : Int) : Int) := of_decide_eq_true (by first | (with_reducible assumption) | assumption); first | exact h_ | (have e_ := (Kd.N_reads' HO320.out).1; omega) | simpa using h_)
                                      obtain ⟨ua85_0, uc85_0, rfl, ul85_0, ge85_0⟩ := Kd.FK_slice_open hM85
                                      have HP85 := (Kd.N_seg HX85.out ((ji74) : Int) (of_decide_eq_true (by first | (with_reducible assumption) | assumption)) (by have h_ : ((ji74) : Int) < ((t318.length : Int) : Int) := of_decide_eq_true (by first | (with_reducible assumption) | assumption); first | exact h_ | (have e_ := (Kd.N_reads' HO320.out).1; omega) | simpa using h_) (seg := [.slice A323_0 (rd_L1 t318 (ji71)).length c323_0]) (j := 0) hcl85 hcc85 (show 1 ≤ 1 from by decide) (x' := rd_L1 t318 (ji71)) (Kd.FK_slice_mk (Kd.V_reads' (Kd.V_mono (ok' := (fun k_ => ((fun k_ => (P0_ k_ ∨ w.heap.size ≤ k_))) k_ ∧ k_ ≠ go77)) (HL323_0.out) (fun k_ hk => ⟨hk.1, fun e_ => (hk.2) (by rw [e_]; rfl)⟩))).2.1 (Kd.V_F (Kd.V_mono (ok' := (fun k_ => ((fun k_ => (P0_ k_ ∨ w.heap.size ≤ k_))) k_ ∧ k_ ≠ go77)) (HL323_0.out) (fun k_ hk => ⟨hk.1, fun e_ => (hk.2) (by rw [e_]; rfl)⟩)))) (fun _ hk => hk)).1
                                      (try simp only [show ((Kd.slice 3 (Kd.int .i64))).sz = 1 from rfl, Nat.mul_one, Nat.add_zero] at HP85)
                                      rw [← Ny325.out] at HP85
                                      have HQ85 := Aside0.mk HP85
                                      clear hcl85 hcc85 hfr85 hM85 HP85
                                      have p78 : 0 ≤ ((ji71) : Int) := of_decide_eq_true (by first | (with_reducible assumption) | assumption)
                                      have q78 : ((ji71) : Int) < ((t318.length : Int) : Int) := of_decide_eq_true (by first | (with_reducible assumption) | assumption)
                                      obtain ⟨ce78, hcl78, hM78, hcc78, hfr78⟩ := Kd.N_elem HQ85.out [] ((ji71) : Int) p78 q78
                                      obtain ⟨ua78_0, uc78_0, rfl, ul78_0, ge78_0⟩ := Kd.FK_slice_open hM78
                                      have hx78_0 := hcc78 0 _ rfl
                                      have hf78_0 := hfr78 0
                                      (try simp only [show ((Kd.slice 3 (Kd.int .i64))).sz = 1 from rfl, Nat.mul_one, Nat.add_zero] at hx78_0)
                                      (try simp only [show ((Kd.slice 3 (Kd.int .i64))).sz = 1 from rfl, Nat.mul_one, Nat.add_zero] at hf78_0)
                                      clear hcl78 hcc78 hfr78 hM78
                                      replace p78 := eq_true p78
                                      replace q78 := eq_true q78
                                      have HX86 := Aside0.mk (show Kd.N (Kd.slice 3 (Kd.int .i64)) 33 _ w.heap.size (fun k_ => (P0_ k_ ∨ w.heap.size ≤ k_)) (.slice (some ⟨go77, 0, none⟩) t318.length co84) y325 from (Kd.N_mono (HQ85.out) (fun k_ hk => hk)))
                                      obtain ⟨ce86, hcl86, hM86, hcc86, hfr86⟩ := Kd.N_elem HX86.out [] ((ji71) : Int) (of_decide_eq_true (by first | (with_reducible assumption) | assumption)) (by have h_ : ((ji71) : Int) < ((t318.length : Int) : Int) := of_decide_eq_true (by first | (with_reducible assumption) | assumption); first | exact h_ | (have e_ := (Kd.N_reads' HO320.out).1; omega) | simpa using h_)
                                      obtain ⟨ua86_0, uc86_0, rfl, ul86_0, ge86_0⟩ := Kd.FK_slice_open hM86
                                      have HL324b : Kd.V (Kd.int .i64) 3 (w82.drew.setCells go77 (ji74).toNat [Value.slice A323_0 (rd_L1 t318 (ji71)).length c323_0]) w.heap.size (fun k => (P0_ k ∨ w.heap.size ≤ k) ∧ some k ≠ (Value.slice (some ⟨go77, 0, none⟩) t318.length co84).ownBlock) (.slice A324_0 (rd_L1 t318 (ji74)).length c324_0) (rd_L1 t318 (ji74)) := Kd.V_map HL324_0.out (fun A hF => Kd.F_step hF (fun k hk _ => setCells_far _ _ k (fun e_ => hk.2 (by rw [e_]; rfl))))
                                      have HP86 := (Kd.N_seg HX86.out ((ji71) : Int) (of_decide_eq_true (by first | (with_reducible assumption) | assumption)) (by have h_ : ((ji71) : Int) < ((t318.length : Int) : Int) := of_decide_eq_true (by first | (with_reducible assumption) | assumption); first | exact h_ | (have e_ := (Kd.N_reads' HO320.out).1; omega) | simpa using h_) (seg := [.slice A324_0 (rd_L1 t318 (ji74)).length c324_0]) (j := 0) hcl86 hcc86 (show 1 ≤ 1 from by decide) (x' := rd_L1 t318 (ji74)) (Kd.FK_slice_mk (Kd.V_reads' (Kd.V_mono (ok' := (fun k_ => ((fun k_ => (P0_ k_ ∨ w.heap.size ≤ k_))) k_ ∧ k_ ≠ go77)) HL324b (fun k_ hk => ⟨hk.1, fun e_ => (hk.2) (by rw [e_]; rfl)⟩))).2.1 (Kd.V_F (Kd.V_mono (ok' := (fun k_ => ((fun k_ => (P0_ k_ ∨ w.heap.size ≤ k_))) k_ ∧ k_ ≠ go77)) HL324b (fun k_ hk => ⟨hk.1, fun e_ => (hk.2) (by rw [e_]; rfl)⟩)))) (fun _ hk => hk)).1
                                      (try simp only [show ((Kd.slice 3 (Kd.int .i64))).sz = 1 from rfl, Nat.mul_one, Nat.add_zero] at HP86)
                                      rw [← Ny326.out] at HP86
                                      have HQ86 := Aside0.mk HP86
                                      clear hcl86 hcc86 hfr86 hM86 HP86
                                      refine start_ (n := 16) (S := fun w' => w'.cell? ⟨go77, ((ji71)).toNat, none⟩ = some (.slice A323_0 (rd_L1 t318 (ji71)).length c323_0) ∧ w'.cell? ⟨go77, ((ji74)).toNat, none⟩ = some (.slice A324_0 (rd_L1 t318 (ji74)).length c324_0)) (ds := [13, 15]) #[false, false, false, false, false, false, false, false, false, false, false, false, false, false, false, false] (by kernel_rfl) rfl rfl ⟨hx323_0, hx324_0⟩ (fun hHeld => ?_); refine with_tabW chargeparklaw30_BidsFurther.tab31 chargeparklaw30_BidsFurther.bits31 (fun HT_ HW_ => ?_)
                                      generalize w82.drew = w83 at HO_0 HO320 HB GG77 HL323_0 HL324_0 HQ85 HQ86 HR323_0 HR324_0 hf77_0 hf78_0 hx323_0 hx324_0 hx77_0 hx78_0 hHeld ⊢
                                      refine pure_ (i := 0) (N := some 203) (v := ?_) (a' := ?_) #[true, false, false, false, false, false, false, false, false, false, false, false, false, false, false, false] rfl rfl (any_of HT_.out (by kernel_rfl)) (fun _ _ _ h => h) (Or.inl ⟨by rfl, ?_⟩) ?_ ?_
                                      rotate_left
                                      · intro w'
                                        go_simp
                                        with_reducible rfl
                                      rotate_left
                                      · simp only [Act.put, List.setIfInBounds_toArray, List.set_cons_zero, List.set_cons_succ, i64_w, i32_w]
                                        rfl
                                      refine pure_ (i := 1) (N := some 204) (v := ?_) (a' := ?_) #[true, true, false, false, false, false, false, false, false, false, false, false, false, false, false, false] rfl rfl (any_of HT_.out (by kernel_rfl)) (fun _ _ _ h => h) (Or.inl ⟨by rfl, ?_⟩) ?_ ?_
                                      rotate_left
                                      · intro w'
                                        go_simp
                                        with_reducible rfl
                                      rotate_left
                                      · simp only [Act.put, List.setIfInBounds_toArray, List.set_cons_zero, List.set_cons_succ, i64_w, i32_w]
                                        rfl
                                      refine pure_ (i := 2) (N := some 205) (v := ?_) (a' := ?_) #[true, true, true, false, false, false, false, false, false, false, false, false, false, false, false, false] rfl rfl (any_of HT_.out (by kernel_rfl)) (fun _ _ _ h => h) (Or.inl ⟨by rfl, ?_⟩) ?_ ?_
                                      rotate_left
                                      · intro w'
                                        go_simp
                                        with_reducible rfl
                                      rotate_left
                                      · simp only [Act.put, List.setIfInBounds_toArray, List.set_cons_zero, List.set_cons_succ, i64_w, i32_w]
                                        rfl
                                      refine pure_ (i := 3) (N := some 206) (v := ?_) (a' := ?_) #[true, true, true, true, false, false, false, false, false, false, false, false, false, false, false, false] rfl rfl (any_of HT_.out (by kernel_rfl)) (fun _ _ _ h => h) (Or.inl ⟨by rfl, ?_⟩) ?_ ?_
                                      rotate_left
                                      · intro w'
                                        go_simp
                                        with_reducible rfl
                                      rotate_left
                                      · simp only [Act.put, List.setIfInBounds_toArray, List.set_cons_zero, List.set_cons_succ, i64_w, i32_w]
                                        rfl
                                      refine pure_ (i := 4) (N := some 207) (v := ?_) (a' := ?_) #[true, true, true, true, true, false, false, false, false, false, false, false, false, false, false, false] rfl rfl (any_of HT_.out (by kernel_rfl)) (fun _ _ _ h => h) (Or.inl ⟨by rfl, ?_⟩) ?_ ?_
                                      rotate_left
                                      · intro w'
                                        go_simp
                                        with_reducible rfl
                                      rotate_left
                                      · simp only [Act.put, List.setIfInBounds_toArray, List.set_cons_zero, List.set_cons_succ, i64_w, i32_w]
                                        rfl
                                      refine pure_ (i := 5) (N := some 208) (v := ?_) (a' := ?_) #[true, true, true, true, true, true, false, false, false, false, false, false, false, false, false, false] rfl rfl (any_of HT_.out (by kernel_rfl)) (fun _ _ _ h => h) (Or.inl ⟨by rfl, ?_⟩) ?_ ?_
                                      rotate_left
                                      · intro w'
                                        go_simp
                                        with_reducible rfl
                                      rotate_left
                                      · simp only [Act.put, List.setIfInBounds_toArray, List.set_cons_zero, List.set_cons_succ, i64_w, i32_w]
                                        rfl
                                      refine pure_ (i := 6) (N := some 209) (v := ?_) (a' := ?_) #[true, true, true, true, true, true, true, false, false, false, false, false, false, false, false, false] rfl rfl (any_of HT_.out (by kernel_rfl)) (fun _ _ _ h => h) (Or.inl ⟨by rfl, ?_⟩) ?_ ?_
                                      rotate_left
                                      · intro w'
                                        go_simp
                                        with_reducible rfl
                                      rotate_left
                                      · simp only [Act.put, List.setIfInBounds_toArray, List.set_cons_zero, List.set_cons_succ, i64_w, i32_w]
                                        rfl
                                      refine pure_ (i := 8) (N := some 211) (v := ?_) (a' := ?_) #[true, true, true, true, true, true, true, false, true, false, false, false, false, false, false, false] rfl rfl (any_of HT_.out (by kernel_rfl)) (fun _ _ _ h => h) (Or.inl ⟨by rfl, ?_⟩) ?_ ?_
                                      rotate_left
                                      · intro w'
                                        go_simp
                                        with_reducible rfl
                                      rotate_left
                                      · simp only [Act.put, List.setIfInBounds_toArray, List.set_cons_zero, List.set_cons_succ, i64_w, i32_w]
                                        rfl
                                      refine pure_ (i := 9) (N := some 212) (v := ?_) (a' := ?_) #[true, true, true, true, true, true, true, false, true, true, false, false, false, false, false, false] rfl rfl (any_of HT_.out (by kernel_rfl)) (fun _ _ _ h => h) (Or.inl ⟨by rfl, ?_⟩) ?_ ?_
                                      rotate_left
                                      · intro w'
                                        go_simp
                                        with_reducible rfl
                                      rotate_left
                                      · simp only [Act.put, List.setIfInBounds_toArray, List.set_cons_zero, List.set_cons_succ, i64_w, i32_w]
                                        rfl
                                      refine pure_ (i := 10) (N := some 213) (v := ?_) (a' := ?_) #[true, true, true, true, true, true, true, false, true, true, true, false, false, false, false, false] rfl rfl (any_of HT_.out (by kernel_rfl)) (fun _ _ _ h => h) (Or.inl ⟨by rfl, ?_⟩) ?_ ?_
                                      rotate_left
                                      · intro w'
                                        go_simp
                                        with_reducible rfl
                                      rotate_left
                                      · simp only [Act.put, List.setIfInBounds_toArray, List.set_cons_zero, List.set_cons_succ, i64_w, i32_w]
                                        rfl
                                      refine take_ (i := 7) (N := some 210) (v := ?_) (a' := ?_) #[true, true, true, true, true, true, true, true, true, true, true, false, false, false, false, false] rfl rfl (take_ofW HT_.out HW_.out (by kernel_rfl)) (fun _ _ _ h => h) (Or.inl ⟨by rfl, ?_⟩) hHeld ?_ ?_
                                      rotate_left
                                      · rintro w' ⟨s0, s1⟩
                                        go_simp
                                        with_reducible rfl
                                      rotate_left
                                      · simp only [Act.put, List.setIfInBounds_toArray, List.set_cons_zero, List.set_cons_succ, i64_w, i32_w]
                                        rfl
                                      refine take_ (i := 11) (N := some 214) (v := ?_) (a' := ?_) #[true, true, true, true, true, true, true, true, true, true, true, true, false, false, false, false] rfl rfl (take_ofW HT_.out HW_.out (by kernel_rfl)) (fun _ _ _ h => h) (Or.inl ⟨by rfl, ?_⟩) hHeld ?_ ?_
                                      rotate_left
                                      · rintro w' ⟨s0, s1⟩
                                        go_simp
                                        with_reducible rfl
                                      rotate_left
                                      · simp only [Act.put, List.setIfInBounds_toArray, List.set_cons_zero, List.set_cons_succ, i64_w, i32_w]
                                        rfl
                                      refine pure_ (i := 12) (N := some 215) (v := ?_) (a' := ?_) #[true, true, true, true, true, true, true, true, true, true, true, true, true, false, false, false] rfl rfl (any_of HT_.out (by kernel_rfl)) (fun _ _ _ h => h) (Or.inl ⟨by rfl, ?_⟩) ?_ ?_
                                      rotate_left
                                      · intro w'
                                        go_simp
                                        with_reducible rfl
                                      rotate_left
                                      · simp only [Act.put, List.setIfInBounds_toArray, List.set_cons_zero, List.set_cons_succ, i64_w, i32_w]
                                        rfl
                                      refine last_ (i := 13) (N := none) #[true, true, true, true, true, true, true, true, true, true, true, true, true, true, false, false] rfl rfl (one_of HT_.out (by kernel_rfl)) (by decide) (fun K hK => ?_)
                                      refine skip_ (w1 := ?_) (by rfl) rfl ?_ ?_
                                      rotate_left
                                      · go_simp
                                        rfl
                                      refine hK.out _ _ ?_
                                      clear hK K
                                      refine pure_ (i := 14) (N := some 216) (v := ?_) (a' := ?_) #[true, true, true, true, true, true, true, true, true, true, true, true, true, true, true, false] rfl rfl (any_of HT_.out (by kernel_rfl)) (fun _ _ _ h => h) (Or.inl ⟨by rfl, ?_⟩) ?_ ?_
                                      rotate_left
                                      · intro w'
                                        go_simp
                                        with_reducible rfl
                                      rotate_left
                                      · simp only [Act.put, List.setIfInBounds_toArray, List.set_cons_zero, List.set_cons_succ, i64_w, i32_w]
                                        rfl
                                      simp only [World.setCells, World.frozen?_setCell] at hx78_0 hf78_0
                                      refine last_ (i := 15) (N := none) #[true, true, true, true, true, true, true, true, true, true, true, true, true, true, true, true] rfl rfl (one_of HT_.out (by kernel_rfl)) (by decide) (fun K hK => ?_)
                                      refine skip_ (w1 := ?_) (by rfl) rfl ?_ ?_
                                      rotate_left
                                      · go_simp
                                        rfl
                                      refine hK.out _ _ ?_
                                      clear hK K
                                      refine done_ (done_of HT_.out (by kernel_rfl)) ?_
                                      try go_wp2_with (first | ((with_reducible refine gate_callee (f := 11) rfl ?_); refine goesL_ (some 222) rfl rfl Try.func11 (by kernel_rfl) rfl #[.slice (some ⟨go77, 0, none⟩) y326.length co84, .slice A1 l1.length c1, .int .i64 a2, .int .i64 a3] rfl (by (try simp only [List.map_toArray, List.map_cons, List.map_nil]); first | done | (rw [show y326.length = t318.length from (Kd.N_reads' HQ86.out).1.symm] <;> rfl) | rfl | (simp only [List.length_drop, List.length_take]; rfl)) ?_; (with_reducible refine (bids_Baseline.calls kj53 _ _ y326 _ _ l1 a2 a3 t327 t328 _ ?side1 ?side2 ?side3 ?side4 A79.out).mono ?_); (case side1 => refine (Kd.N_reads' (e := 33) (base := w.heap.size) (ok := fun k_ => (P0_ k_ ∨ w.heap.size ≤ k_)) (n := t318.length) (c := co84) ?_).2.2; exact (by (with_reducible repeat (first | apply Kd.N_alloc | apply Kd.N_drewN | apply Kd.N_drew)); exact HQ86.out)); (case side2 => rw [show y326.length = t318.length from (Kd.N_reads' HQ86.out).1.symm]; exact (Kd.N_reads' HO320.out).2.1); (case side3 => exact Kd.C_below HR1.out (by repeat (first | (with_reducible first | exact HB.out | apply below_alloc | apply pw_below_drewN | apply below_drew1 | refine below_set ?_ GB77.out | refine below_set ?_ GB77.out) | exact HB.out))); (case side4 => exact HC1.out); rintro e w87 ⟨rfl, hb⟩; refine ⟨_, rfl, ?_⟩; have n0_ := Aside0.mk (Kd.V_below (by (with_reducible repeat (first | apply Kd.V_alloc | apply Kd.V_drewN | apply Kd.V_drew)); exact (Kd.V_mono (Kd.V_far (p := ⟨go77, ((ji71) : Int).toNat, none⟩) (Kd.V_far (p := ⟨go77, ((ji74) : Int).toNat, none⟩) (Kd.V_mono HO_0.out (fun k_ hk => (⟨hk, fun e_ => hk.2 (by rw [e_]; rfl)⟩ : _ ∧ k_ ≠ go77))) (fun _ hk => hk.2) (.slice A323_0 (rd_L1 t318 (ji71)).length c323_0)) (fun _ hk => hk.2) (.slice A324_0 (rd_L1 t318 (ji74)).length c324_0)) (fun _ h_ => h_.1))) hb); have n1_ := Aside0.mk (Kd.N_below (by (with_reducible repeat (first | apply Kd.N_alloc | apply Kd.N_drewN | apply Kd.N_drew)); exact HQ86.out) hb); have n2_ := Aside0.mk (Kd.V_below (by (with_reducible repeat (first | apply Kd.V_alloc | apply Kd.V_drewN | apply Kd.V_drew)); exact (Kd.V_mono (Kd.V_far (p := ⟨go77, ((ji71) : Int).toNat, none⟩) (Kd.V_far (p := ⟨go77, ((ji74) : Int).toNat, none⟩) (Kd.V_mono HL323_0.out (fun k_ hk => (⟨hk, fun e_ => hk.2 (by rw [e_]; rfl)⟩ : _ ∧ k_ ≠ go77))) (fun _ hk => hk.2) (.slice A323_0 (rd_L1 t318 (ji71)).length c323_0)) (fun _ hk => hk.2) (.slice A324_0 (rd_L1 t318 (ji74)).length c324_0)) (fun _ h_ => h_.1))) hb); have n3_ := Aside0.mk (Kd.V_below (by (with_reducible repeat (first | apply Kd.V_alloc | apply Kd.V_drewN | apply Kd.V_drew)); exact (Kd.V_mono (Kd.V_far (p := ⟨go77, ((ji71) : Int).toNat, none⟩) (Kd.V_far (p := ⟨go77, ((ji74) : Int).toNat, none⟩) (Kd.V_mono HL324_0.out (fun k_ hk => (⟨hk, fun e_ => hk.2 (by rw [e_]; rfl)⟩ : _ ∧ k_ ≠ go77))) (fun _ hk => hk.2) (.slice A323_0 (rd_L1 t318 (ji71)).length c323_0)) (fun _ hk => hk.2) (.slice A324_0 (rd_L1 t318 (ji74)).length c324_0)) (fun _ h_ => h_.1))) hb); have n4_ := Aside0.mk (Kd.C_below ((Kd.V_reads' (by (with_reducible repeat (first | apply Kd.V_alloc | apply Kd.V_drewN | apply Kd.V_drew)); exact (Kd.V_mono (Kd.V_far (p := ⟨go77, ((ji71) : Int).toNat, none⟩) (Kd.V_far (p := ⟨go77, ((ji74) : Int).toNat, none⟩) (Kd.V_mono HL323_0.out (fun k_ hk => (⟨hk, fun e_ => hk.2 (by rw [e_]; rfl)⟩ : _ ∧ k_ ≠ go77))) (fun _ hk => hk.2) (.slice A323_0 (rd_L1 t318 (ji71)).length c323_0)) (fun _ hk => hk.2) (.slice A324_0 (rd_L1 t318 (ji74)).length c324_0)) (fun _ h_ => h_.1)))).2.2) hb); have n5_ := Aside0.mk (Kd.C_below ((Kd.V_reads' (by (with_reducible repeat (first | apply Kd.V_alloc | apply Kd.V_drewN | apply Kd.V_drew)); exact (Kd.V_mono (Kd.V_far (p := ⟨go77, ((ji71) : Int).toNat, none⟩) (Kd.V_far (p := ⟨go77, ((ji74) : Int).toNat, none⟩) (Kd.V_mono HL324_0.out (fun k_ hk => (⟨hk, fun e_ => hk.2 (by rw [e_]; rfl)⟩ : _ ∧ k_ ≠ go77))) (fun _ hk => hk.2) (.slice A323_0 (rd_L1 t318 (ji71)).length c323_0)) (fun _ hk => hk.2) (.slice A324_0 (rd_L1 t318 (ji74)).length c324_0)) (fun _ h_ => h_.1)))).2.2) hb); have n6_ := Aside0.mk (below_step (by repeat (first | (with_reducible first | exact HB.out | apply below_alloc | apply pw_below_drewN | apply below_drew1 | refine below_set ?_ GB77.out | refine below_set ?_ GB77.out) | exact HB.out)) hb); clear HO_0; clear HO320; clear HL323_0; clear HL324_0; clear HR323_0; clear HR324_0; clear HB; have HO_0 := n0_; have HO320 := n1_; have HL323_0 := n2_; have HL324_0 := n3_; have HR323_0 := n4_; have HR324_0 := n5_; have HB := n6_; clear n0_ n1_ n2_ n3_ n4_ n5_ n6_; (try clear hb); (try clear hb2); (try clear hk); (try clear hi)))
                                      go_ret
                                      exact ⟨by first | rfl | (simp [errW_none, errW_some] <;> rfl) | (simp only [← hji71, ← hji74]; first | rfl | (simp [errW_none, errW_some] <;> rfl)) | (simp [*, errW_none, errW_some] <;> rfl), by repeat (first | (with_reducible first | exact HB.out | apply below_alloc | apply pw_below_drewN | apply below_drew1) | exact HB.out)⟩
                                    · as_aux_lemma =>
                                      rw [if_neg c81] at H
                                      have c81b0 : (t327 == t310) = false := beq_eq_false_iff_ne.mpr c81
                                      have c81b1 : (t327 != t310) = true := bne_iff_ne.mpr c81
                                      obtain rfl := Option.some.inj H
                                      exact absurd hr.out (by decide)
                                  · replace c80 := Bool.eq_false_iff.mpr c80
                                    subst c80
                                    have H1 : (some false) = some r := by rw [if_neg (show ¬ (false = true) by decide)] at H; exact H
                                    clear H
                                    have H := H1
                                    clear H1
                                    obtain rfl := Option.some.inj H
                                    exact absurd hr.out (by decide)
                                · as_aux_lemma =>
                                  rw [if_neg c76] at H
                                  exact absurd H (by simp)
                              · rw [if_neg c75] at H
                                exact absurd H (by simp)
                            · rw [if_neg c73] at H
                              exact absurd H (by simp)
                          · rw [if_neg c72] at H
                            exact absurd H (by simp)
                        · replace c70 := Bool.eq_false_iff.mpr c70
                          subst c70
                          have H1 : ((bids_Baseline.f kj53 t318 l1 a2 a3).bind fun bt329 => (if x13_53 = true then (if bt329.1 = t310 then (some (bt329.2 == t311)) else (some false)) else (some false))) = some r := by rw [if_neg (show ¬ (false = true) by decide)] at H; exact H
                          clear H
                          have H := H1
                          clear H1
                          replace H := Option.bind_eq_some_iff.mp H
                          obtain ⟨⟨t329, t330⟩, A880, H⟩ := H
                          replace H : (if x13_53 = true then (if t329 = t310 then (some (t330 == t311)) else (some false)) else (some false)) = some r := H
                          have A88 := Aside0.mk A880
                          clear A880
                          by_cases c89 : x13_53 = true
                          · subst c89
                            have H1 : (if t329 = t310 then (some (t330 == t311)) else (some false)) = some r := by first | (rw [if_pos rfl] at H; exact H) | (rw [if_pos trivial] at H; exact H)
                            clear H
                            have H := H1
                            clear H1
                            by_cases c90 : t329 = t310
                            · rw [if_pos c90] at H
                              have c90b0 : (t329 == t310) = true := beq_iff_eq.mpr c90
                              have c90b1 : (t329 != t310) = false := bne_eq_false_iff_eq.mpr c90
                              clear c90
                              obtain rfl := Option.some.inj H
                              simp only [Option.some.injEq, Prod.mk.injEq] at H
                              obtain ⟨rfl⟩ := H
                              go_wp2_with (first | ((with_reducible refine gate_callee (f := 17) rfl ?_); refine goesL_ (some 184) rfl rfl Try.func17 (by kernel_rfl) rfl #[.slice A0 l0.length c0] rfl (by (try simp only [List.map_toArray, List.map_cons, List.map_nil]); first | done | rfl | (simp only [List.length_drop, List.length_take]; rfl)) ?_; (with_reducible refine (chargeparkref30_Copy.calls kj53 _ _ l0 t318 _ ?side1 ?side2 A65.out).mono ?_); (case side1 => repeat (first | exact (Kd.V_reads' HO_0.out).2.2 | (with_reducible refine Kd.C_alloc ?_ _) | (with_reducible refine Kd.C_drewN ?_ _) | (with_reducible refine Kd.C_drew ?_))); (case side2 => exact (Kd.V_reads' HO_0.out).2.1); rintro e w91 ⟨v319, rfl, ho0, hb⟩; refine ⟨_, rfl, ?_⟩; have n0_ := Aside0.mk (Kd.V_elder' (by (with_reducible repeat (first | apply Kd.V_alloc | apply Kd.V_drewN | apply Kd.V_drew)); exact HO_0.out) (Kd.N_base (Kd.S_N ho0)) hb); have n1_ := Aside0.mk (Kd.N_lower (Kd.N_mono (ok' := fun k_ => (P0_ k_ ∨ w.heap.size ≤ k_)) (Kd.S_N (Kd.S_bound ho0)) (fun k_ hk_ => (.inr (Nat.le_trans (below_size (by repeat (first | (with_reducible first | exact HB.out | apply below_alloc | apply pw_below_drewN | apply below_drew1) | exact HB.out))) hk_.2.1)))) (below_size (by repeat (first | (with_reducible first | exact HB.out | apply below_alloc | apply pw_below_drewN | apply below_drew1) | exact HB.out)))); have n2_ := Aside0.mk (below_step (by repeat (first | (with_reducible first | exact HB.out | apply below_alloc | apply pw_below_drewN | apply below_drew1) | exact HB.out)) hb); clear HO_0; clear HB; have HO_0 := n0_; have HO320 := n1_; have HB := n2_; clear n0_ n1_ n2_; (try clear hb); (try clear hb2); (try clear hk); (try clear hi); (try clear ho0)) | ((with_reducible refine gate_callee (f := 16) rfl ?_); refine goesL_ (some 196) rfl rfl Try.func16 (by kernel_rfl) rfl #[.slice A1 l1.length c1, .int .i64 (Int.tmod a4 (l0.length : Int)), .int .i64 a2] rfl (by (try simp only [List.map_toArray, List.map_cons, List.map_nil]); first | done | rfl | (simp only [List.length_drop, List.length_take]; rfl)) ?_; (with_reducible refine (chargeparklaw30_counts.calls kj53 _ _ l1 (Int.tmod a4 (l0.length : Int)) a2 true _ ?side1 ?side2 A67.out).mono ?_); (case side1 => repeat (first | exact (Kd.C_below HR1.out HB.out) | (with_reducible refine Kd.C_alloc ?_ _) | (with_reducible refine Kd.C_drewN ?_ _) | (with_reducible refine Kd.C_drew ?_))); (case side2 => exact HC1.out); rintro e w' ⟨rfl, ⟨nd, rfl⟩⟩; refine ⟨_, rfl, ?_⟩) | (go_at_call 16; (with_reducible refine (chargeparklaw30_counts.calls kj53 _ _ l1 (Int.tmod a5 (l0.length : Int)) a2 false _ ?side1 ?side2 A69.out).mono ?_); (case side1 => repeat (first | exact (Kd.C_below HR1.out (by repeat (first | (with_reducible first | exact HB.out | apply below_alloc | apply pw_below_drewN | apply below_drew1) | exact HB.out))) | (with_reducible refine Kd.C_alloc ?_ _) | (with_reducible refine Kd.C_drewN ?_ _) | (with_reducible refine Kd.C_drew ?_))); (case side2 => exact HC1.out); rintro e w' ⟨rfl, ⟨nd, rfl⟩⟩; obtain ⟨Ao92, co92, eo92⟩ := Kd.N_slice HO320.out; subst eo92) | ((with_reducible refine gate_callee (f := 11) rfl ?_); refine goesL_ (some 222) rfl rfl Try.func11 (by kernel_rfl) rfl #[.slice Ao92 t318.length co92, .slice A1 l1.length c1, .int .i64 a2, .int .i64 a3] rfl (by (try simp only [List.map_toArray, List.map_cons, List.map_nil]); first | done | rfl | (simp only [List.length_drop, List.length_take]; rfl)) ?_; (with_reducible refine (bids_Baseline.calls kj53 _ _ t318 _ _ l1 a2 a3 t329 t330 _ ?side1 ?side2 ?side3 ?side4 A88.out).mono ?_); (case side1 => repeat (first | exact (Kd.N_reads' HO320.out).2.2 | (with_reducible refine Kd.C_alloc ?_ _) | (with_reducible refine Kd.C_drewN ?_ _) | (with_reducible refine Kd.C_drew ?_))); (case side2 => exact (Kd.N_reads' HO320.out).2.1); (case side3 => repeat (first | exact (Kd.C_below HR1.out (by repeat (first | (with_reducible first | exact HB.out | apply below_alloc | apply pw_below_drewN | apply below_drew1) | exact HB.out))) | (with_reducible refine Kd.C_alloc ?_ _) | (with_reducible refine Kd.C_drewN ?_ _) | (with_reducible refine Kd.C_drew ?_))); (case side4 => exact HC1.out); rintro e w93 ⟨rfl, hb⟩; refine ⟨_, rfl, ?_⟩; have n0_ := Aside0.mk (Kd.V_below (by (with_reducible repeat (first | apply Kd.V_alloc | apply Kd.V_drewN | apply Kd.V_drew)); exact HO_0.out) hb); have n1_ := Aside0.mk (Kd.N_below (by (with_reducible repeat (first | apply Kd.N_alloc | apply Kd.N_drewN | apply Kd.N_drew)); exact HO320.out) hb); have n2_ := Aside0.mk (below_step (by repeat (first | (with_reducible first | exact HB.out | apply below_alloc | apply pw_below_drewN | apply below_drew1) | exact HB.out)) hb); clear HO_0; clear HO320; clear HB; have HO_0 := n0_; have HO320 := n1_; have HB := n2_; clear n0_ n1_ n2_; (try clear hb); (try clear hb2); (try clear hk); (try clear hi)))
                              go_ret
                              exact ⟨by first | rfl | (simp [errW_none, errW_some] <;> rfl) | (simp [*, errW_none, errW_some] <;> rfl), by repeat (first | (with_reducible first | exact HB.out | apply below_alloc | apply pw_below_drewN | apply below_drew1) | exact HB.out)⟩
                            · rw [if_neg c90] at H
                              have c90b0 : (t329 == t310) = false := beq_eq_false_iff_ne.mpr c90
                              have c90b1 : (t329 != t310) = true := bne_iff_ne.mpr c90
                              obtain rfl := Option.some.inj H
                              exact absurd hr.out (by decide)
                          · replace c89 := Bool.eq_false_iff.mpr c89
                            subst c89
                            have H1 : (some false) = some r := by rw [if_neg (show ¬ (false = true) by decide)] at H; exact H
                            clear H
                            have H := H1
                            clear H1
                            obtain rfl := Option.some.inj H
                            exact absurd hr.out (by decide)
                      · replace c68 := Bool.eq_false_iff.mpr c68
                        subst c68
                        have H1 : ((bids_Baseline.f kj53 t318 l1 a2 a3).bind fun bt331 => (if x13_53 = true then (if bt331.1 = t310 then (some (bt331.2 == t311)) else (some false)) else (some false))) = some r := by rw [if_neg (show ¬ (false = true) by decide)] at H; exact H
                        clear H
                        have H := H1
                        clear H1
                        replace H := Option.bind_eq_some_iff.mp H
                        obtain ⟨⟨t331, t332⟩, A940, H⟩ := H
                        replace H : (if x13_53 = true then (if t331 = t310 then (some (t332 == t311)) else (some false)) else (some false)) = some r := H
                        have A94 := Aside0.mk A940
                        clear A940
                        by_cases c95 : x13_53 = true
                        · subst c95
                          have H1 : (if t331 = t310 then (some (t332 == t311)) else (some false)) = some r := by first | (rw [if_pos rfl] at H; exact H) | (rw [if_pos trivial] at H; exact H)
                          clear H
                          have H := H1
                          clear H1
                          by_cases c96 : t331 = t310
                          · rw [if_pos c96] at H
                            have c96b0 : (t331 == t310) = true := beq_iff_eq.mpr c96
                            have c96b1 : (t331 != t310) = false := bne_eq_false_iff_eq.mpr c96
                            clear c96
                            obtain rfl := Option.some.inj H
                            simp only [Option.some.injEq, Prod.mk.injEq] at H
                            obtain ⟨rfl⟩ := H
                            go_wp2_with (first | ((with_reducible refine gate_callee (f := 17) rfl ?_); refine goesL_ (some 184) rfl rfl Try.func17 (by kernel_rfl) rfl #[.slice A0 l0.length c0] rfl (by (try simp only [List.map_toArray, List.map_cons, List.map_nil]); first | done | rfl | (simp only [List.length_drop, List.length_take]; rfl)) ?_; (with_reducible refine (chargeparkref30_Copy.calls kj53 _ _ l0 t318 _ ?side1 ?side2 A65.out).mono ?_); (case side1 => repeat (first | exact (Kd.V_reads' HO_0.out).2.2 | (with_reducible refine Kd.C_alloc ?_ _) | (with_reducible refine Kd.C_drewN ?_ _) | (with_reducible refine Kd.C_drew ?_))); (case side2 => exact (Kd.V_reads' HO_0.out).2.1); rintro e w97 ⟨v319, rfl, ho0, hb⟩; refine ⟨_, rfl, ?_⟩; have n0_ := Aside0.mk (Kd.V_elder' (by (with_reducible repeat (first | apply Kd.V_alloc | apply Kd.V_drewN | apply Kd.V_drew)); exact HO_0.out) (Kd.N_base (Kd.S_N ho0)) hb); have n1_ := Aside0.mk (Kd.N_lower (Kd.N_mono (ok' := fun k_ => (P0_ k_ ∨ w.heap.size ≤ k_)) (Kd.S_N (Kd.S_bound ho0)) (fun k_ hk_ => (.inr (Nat.le_trans (below_size (by repeat (first | (with_reducible first | exact HB.out | apply below_alloc | apply pw_below_drewN | apply below_drew1) | exact HB.out))) hk_.2.1)))) (below_size (by repeat (first | (with_reducible first | exact HB.out | apply below_alloc | apply pw_below_drewN | apply below_drew1) | exact HB.out)))); have n2_ := Aside0.mk (below_step (by repeat (first | (with_reducible first | exact HB.out | apply below_alloc | apply pw_below_drewN | apply below_drew1) | exact HB.out)) hb); clear HO_0; clear HB; have HO_0 := n0_; have HO320 := n1_; have HB := n2_; clear n0_ n1_ n2_; (try clear hb); (try clear hb2); (try clear hk); (try clear hi); (try clear ho0)) | ((with_reducible refine gate_callee (f := 16) rfl ?_); refine goesL_ (some 196) rfl rfl Try.func16 (by kernel_rfl) rfl #[.slice A1 l1.length c1, .int .i64 (Int.tmod a4 (l0.length : Int)), .int .i64 a2] rfl (by (try simp only [List.map_toArray, List.map_cons, List.map_nil]); first | done | rfl | (simp only [List.length_drop, List.length_take]; rfl)) ?_; (with_reducible refine (chargeparklaw30_counts.calls kj53 _ _ l1 (Int.tmod a4 (l0.length : Int)) a2 false _ ?side1 ?side2 A67.out).mono ?_); (case side1 => repeat (first | exact (Kd.C_below HR1.out HB.out) | (with_reducible refine Kd.C_alloc ?_ _) | (with_reducible refine Kd.C_drewN ?_ _) | (with_reducible refine Kd.C_drew ?_))); (case side2 => exact HC1.out); rintro e w' ⟨rfl, ⟨nd, rfl⟩⟩; refine ⟨_, rfl, ?_⟩; obtain ⟨Ao98, co98, eo98⟩ := Kd.N_slice HO320.out; subst eo98) | ((with_reducible refine gate_callee (f := 11) rfl ?_); refine goesL_ (some 222) rfl rfl Try.func11 (by kernel_rfl) rfl #[.slice Ao98 t318.length co98, .slice A1 l1.length c1, .int .i64 a2, .int .i64 a3] rfl (by (try simp only [List.map_toArray, List.map_cons, List.map_nil]); first | done | rfl | (simp only [List.length_drop, List.length_take]; rfl)) ?_; (with_reducible refine (bids_Baseline.calls kj53 _ _ t318 _ _ l1 a2 a3 t331 t332 _ ?side1 ?side2 ?side3 ?side4 A94.out).mono ?_); (case side1 => repeat (first | exact (Kd.N_reads' HO320.out).2.2 | (with_reducible refine Kd.C_alloc ?_ _) | (with_reducible refine Kd.C_drewN ?_ _) | (with_reducible refine Kd.C_drew ?_))); (case side2 => exact (Kd.N_reads' HO320.out).2.1); (case side3 => repeat (first | exact (Kd.C_below HR1.out (by repeat (first | (with_reducible first | exact HB.out | apply below_alloc | apply pw_below_drewN | apply below_drew1) | exact HB.out))) | (with_reducible refine Kd.C_alloc ?_ _) | (with_reducible refine Kd.C_drewN ?_ _) | (with_reducible refine Kd.C_drew ?_))); (case side4 => exact HC1.out); rintro e w99 ⟨rfl, hb⟩; refine ⟨_, rfl, ?_⟩; have n0_ := Aside0.mk (Kd.V_below (by (with_reducible repeat (first | apply Kd.V_alloc | apply Kd.V_drewN | apply Kd.V_drew)); exact HO_0.out) hb); have n1_ := Aside0.mk (Kd.N_below (by (with_reducible repeat (first | apply Kd.N_alloc | apply Kd.N_drewN | apply Kd.N_drew)); exact HO320.out) hb); have n2_ := Aside0.mk (below_step (by repeat (first | (with_reducible first | exact HB.out | apply below_alloc | apply pw_below_drewN | apply below_drew1) | exact HB.out)) hb); clear HO_0; clear HO320; clear HB; have HO_0 := n0_; have HO320 := n1_; have HB := n2_; clear n0_ n1_ n2_; (try clear hb); (try clear hb2); (try clear hk); (try clear hi)))
                            go_ret
                            exact ⟨by first | rfl | (simp [errW_none, errW_some] <;> rfl) | (simp [*, errW_none, errW_some] <;> rfl), by repeat (first | (with_reducible first | exact HB.out | apply below_alloc | apply pw_below_drewN | apply below_drew1) | exact HB.out)⟩
                          · rw [if_neg c96] at H
                            have c96b0 : (t331 == t310) = false := beq_eq_false_iff_ne.mpr c96
                            have c96b1 : (t331 != t310) = true := bne_iff_ne.mpr c96
                            obtain rfl := Option.some.inj H
                            exact absurd hr.out (by decide)
                        · replace c95 := Bool.eq_false_iff.mpr c95
                          subst c95
                          have H1 : (some false) = some r := by rw [if_neg (show ¬ (false = true) by decide)] at H; exact H
                          clear H
                          have H := H1
                          clear H1
                          obtain rfl := Option.some.inj H
                          exact absurd hr.out (by decide)

end Go.Proofs.Ytakmioomcnnfjaa.PAll
