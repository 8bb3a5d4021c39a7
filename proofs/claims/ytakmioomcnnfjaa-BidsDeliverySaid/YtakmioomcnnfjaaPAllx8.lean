/- What the Go functions of this seat's laws return, told as Lean functions and proved by their walks; laid by a program of this session out of Lean's own print of the translation. No conditions of its own. -/
import Derived.Test.YtakmioomcnnfjaaPAllx0
import Derived.Test.YtakmioomcnnfjaaPAllx1
import Derived.Test.YtakmioomcnnfjaaPAllx2
import Derived.Test.YtakmioomcnnfjaaPAllx4
import Derived.Test.YtakmioomcnnfjaaPAllx5
namespace Go.Proofs.Ytakmioomcnnfjaa.PAll
open Go.RowKit Go.Proofs.YtakmioomcnnfjaaW.PrintWords Go.Proofs.YtakmioomcnnfjaaW.PrintLast Go.Proofs.YtakmioomcnnfjaaW.PrintMore
attribute [local go_sem] max2_int min2_int max_two min_two max_three min_three max_four min_four   -- for this text's walks alone
set_option linter.unusedVariables false
set_option linter.unusedSimpArgs false

/-! ### chargeparklaw30_BidsDelivery: function 6 -/
mutual
def chargeparklaw30_BidsDelivery.j0 : Nat → List (List Int) → List Bool → Int → Int → Bool → Bool → Option (Bool)
  | 0, _, _, _, _, _, _ => none
  | k + 1, x0, x1, x2, x3, x9, x44 => if x44 = true then (some x9) else (if 0 ≤ x2 then (if x2 < (x0.length : Int) then (if ((rd_L1 x0 x2).length : Int) = 0 then (none) else ((bids_Delivered.f x0 x1 x2).bind fun bt240 => (if bt240.2 = 0 then (chargeparklaw30_BidsDelivery.l0 k x0 x1 x2 x9 (Int.tmod x3 ((rd_L1 x0 x2).length : Int)) bt240.1 0 0 0) else (if x9 = true then (if bt240.2 = 4 then (some (bt240.1 == 0)) else (some false)) else (some false))))) else (none)) else (none))
def chargeparklaw30_BidsDelivery.l0 : Nat → List (List Int) → List Bool → Int → Bool → Int → Int → Int → Int → Int → Option (Bool)
  | 0, _, _, _, _, _, _, _, _, _ => none
  | k + 1, x0, x1, x2, x9, x11, x12, x14, x15, x16 => if 0 ≤ x2 then (if x2 < (x0.length : Int) then (if x16 < ((rd_L1 x0 x2).length : Int) then ((bids_Baseline.f k x0 x1 x2 x16).bind fun bt243 => (if bt243.2 = 0 then (if 0 ≤ x16 then (chargeparklaw30_BidsDelivery.l0 k x0 x1 x2 x9 x11 x12 (wrap64 (x14 + (mx 0 (wrap64 (bt243.1 - (rd (rd_L1 x0 x2) x16)))))) (wrap64 (x15 + bt243.1)) (wrap64 (x16 + 1))) else (none)) else (some false))) else (if x9 = true then (if x12 = x14 then (if x12 ≥ 0 then (chargeparklaw30_BidsDelivery.j2 k x0 x1 x2 (decide (x12 ≤ x15)) x11 x12) else (chargeparklaw30_BidsDelivery.j2 k x0 x1 x2 false x11 x12)) else (chargeparklaw30_BidsDelivery.j2 k x0 x1 x2 false x11 x12)) else (chargeparklaw30_BidsDelivery.j2 k x0 x1 x2 false x11 x12))) else (none)) else (none)
def chargeparklaw30_BidsDelivery.j2 : Nat → List (List Int) → List Bool → Int → Bool → Int → Int → Option (Bool)
  | 0, _, _, _, _, _, _ => none
  | k + 1, x0, x1, x2, x9, x11, x12 => if 0 ≤ x2 then (if x2 < (x0.length : Int) then (if 0 ≤ x11 then (if x11 < ((rd_L1 x0 x2).length : Int) then (if (rd (rd_L1 x0 x2) x11) = 0 then (some x9) else ((chargeparkref30_Copy.f k x0).bind fun t249 => (if x2 < (t249.length : Int) then (if x11 < ((rd_L1 t249 x2).length : Int) then ((bids_Delivered.f (t249.set (x2 : Int).toNat ((rd_L1 t249 x2).set (x11 : Int).toNat (wrap64 ((rd (rd_L1 t249 x2) x11) - 1)))) x1 x2).bind fun bt257 => ((bids_Baseline.f k x0 x1 x2 x11).bind fun bt259 => (if (rd (rd_L1 x0 x2) x11) ≤ bt259.1 then (if x9 = true then (if bt257.2 = 0 then (if bt259.2 = 0 then (some (bt257.1 == (wrap64 (x12 + 1)))) else (some false)) else (some false)) else (some false)) else (if x9 = true then (if bt257.2 = 0 then (if bt259.2 = 0 then (some (bt257.1 == (wrap64 (x12 + 0)))) else (some false)) else (some false)) else (some false))))) else (none)) else (none)))) else (none)) else (none)) else (none)) else (none)
end
def chargeparklaw30_BidsDelivery.f (k : Nat) (l0 : List (List Int)) (l1 : List Bool) (a2 : Int) (a3 : Int) : Option (Bool) := (chargeparklaw30_head_c.f).bind fun _ => ((chargeparklaw30_usable.f k l0 l1).bind fun t238 => (if t238 = true then (if a2 < 0 then (chargeparklaw30_BidsDelivery.j0 k l0 l1 a2 a3 true true) else (if a2 ≥ (l0.length : Int) then (chargeparklaw30_BidsDelivery.j0 k l0 l1 a2 a3 true true) else (chargeparklaw30_BidsDelivery.j0 k l0 l1 a2 a3 true (decide (a3 < 0))))) else (chargeparklaw30_BidsDelivery.j0 k l0 l1 a2 a3 true true)))
theorem chargeparklaw30_BidsDelivery.mono_l : ∀ k, (∀ y0 y1 y2 y3 y4 y5, LeO (chargeparklaw30_BidsDelivery.j0 k y0 y1 y2 y3 y4 y5) (chargeparklaw30_BidsDelivery.j0 (k + 1) y0 y1 y2 y3 y4 y5)) ∧ (∀ y0 y1 y2 y3 y4 y5 y6 y7 y8, LeO (chargeparklaw30_BidsDelivery.l0 k y0 y1 y2 y3 y4 y5 y6 y7 y8) (chargeparklaw30_BidsDelivery.l0 (k + 1) y0 y1 y2 y3 y4 y5 y6 y7 y8)) ∧ (∀ y0 y1 y2 y3 y4 y5, LeO (chargeparklaw30_BidsDelivery.j2 k y0 y1 y2 y3 y4 y5) (chargeparklaw30_BidsDelivery.j2 (k + 1) y0 y1 y2 y3 y4 y5))
  | 0 => ⟨fun _ _ _ _ _ _ r h => by simp [chargeparklaw30_BidsDelivery.j0] at h, fun _ _ _ _ _ _ _ _ _ r h => by simp [chargeparklaw30_BidsDelivery.l0] at h, fun _ _ _ _ _ _ r h => by simp [chargeparklaw30_BidsDelivery.j2] at h⟩
  | k + 1 => by
    obtain ⟨ih0, ih1, ih2⟩ := chargeparklaw30_BidsDelivery.mono_l k
    refine ⟨?_, ?_, ?_⟩
    · intro y0 y1 y2 y3 y4 y5
      unfold chargeparklaw30_BidsDelivery.j0
      repeat' first
      | (with_reducible exact ih0 _ _ _ _ _ _)
      | (with_reducible exact ih1 _ _ _ _ _ _ _ _ _)
      | (with_reducible exact ih2 _ _ _ _ _ _)
      | (with_reducible exact bids_Baseline.mono _ _ _ _ _)
      | (with_reducible exact chargeparklaw30_usable.mono _ _ _)
      | (with_reducible exact chargeparkref30_Copy.mono _ _)
      | (with_reducible exact LeO.refl _)
      | (with_reducible exact LeO.none _)
      | (with_reducible refine LeO.ite ?_ ?_)
      | (with_reducible refine LeO.bind ?_ (fun _ => ?_))
      | exact ih0 _ _ _ _ _ _
      | exact ih1 _ _ _ _ _ _ _ _ _
      | exact ih2 _ _ _ _ _ _
      | exact bids_Baseline.mono _ _ _ _ _
      | exact chargeparklaw30_usable.mono _ _ _
      | exact chargeparkref30_Copy.mono _ _
      | exact LeO.none _
      | refine LeO.ite ?_ ?_
      | refine LeO.bind ?_ (fun _ => ?_)
    · intro y0 y1 y2 y3 y4 y5 y6 y7 y8
      unfold chargeparklaw30_BidsDelivery.l0
      repeat' first
      | (with_reducible exact ih0 _ _ _ _ _ _)
      | (with_reducible exact ih1 _ _ _ _ _ _ _ _ _)
      | (with_reducible exact ih2 _ _ _ _ _ _)
      | (with_reducible exact bids_Baseline.mono _ _ _ _ _)
      | (with_reducible exact chargeparklaw30_usable.mono _ _ _)
      | (with_reducible exact chargeparkref30_Copy.mono _ _)
      | (with_reducible exact LeO.refl _)
      | (with_reducible exact LeO.none _)
      | (with_reducible refine LeO.ite ?_ ?_)
      | (with_reducible refine LeO.bind ?_ (fun _ => ?_))
      | exact ih0 _ _ _ _ _ _
      | exact ih1 _ _ _ _ _ _ _ _ _
      | exact ih2 _ _ _ _ _ _
      | exact bids_Baseline.mono _ _ _ _ _
      | exact chargeparklaw30_usable.mono _ _ _
      | exact chargeparkref30_Copy.mono _ _
      | exact LeO.none _
      | refine LeO.ite ?_ ?_
      | refine LeO.bind ?_ (fun _ => ?_)
    · intro y0 y1 y2 y3 y4 y5
      unfold chargeparklaw30_BidsDelivery.j2
      repeat' first
      | (with_reducible exact ih0 _ _ _ _ _ _)
      | (with_reducible exact ih1 _ _ _ _ _ _ _ _ _)
      | (with_reducible exact ih2 _ _ _ _ _ _)
      | (with_reducible exact bids_Baseline.mono _ _ _ _ _)
      | (with_reducible exact chargeparklaw30_usable.mono _ _ _)
      | (with_reducible exact chargeparkref30_Copy.mono _ _)
      | (with_reducible exact LeO.refl _)
      | (with_reducible exact LeO.none _)
      | (with_reducible refine LeO.ite ?_ ?_)
      | (with_reducible refine LeO.bind ?_ (fun _ => ?_))
      | exact ih0 _ _ _ _ _ _
      | exact ih1 _ _ _ _ _ _ _ _ _
      | exact ih2 _ _ _ _ _ _
      | exact bids_Baseline.mono _ _ _ _ _
      | exact chargeparklaw30_usable.mono _ _ _
      | exact chargeparkref30_Copy.mono _ _
      | exact LeO.none _
      | refine LeO.ite ?_ ?_
      | refine LeO.bind ?_ (fun _ => ?_)
theorem chargeparklaw30_BidsDelivery.mono : ∀ a0 a1 a2 a3 k, LeO (chargeparklaw30_BidsDelivery.f k a0 a1 a2 a3) (chargeparklaw30_BidsDelivery.f (k + 1) a0 a1 a2 a3) := by
  intro a0 a1 a2 a3 k
  obtain ⟨ih0, ih1, ih2⟩ := chargeparklaw30_BidsDelivery.mono_l k
  unfold chargeparklaw30_BidsDelivery.f
  repeat' first
      | (with_reducible exact ih0 _ _ _ _ _ _)
      | (with_reducible exact ih1 _ _ _ _ _ _ _ _ _)
      | (with_reducible exact ih2 _ _ _ _ _ _)
      | (with_reducible exact bids_Baseline.mono _ _ _ _ _)
      | (with_reducible exact chargeparklaw30_usable.mono _ _ _)
      | (with_reducible exact chargeparkref30_Copy.mono _ _)
      | (with_reducible exact LeO.refl _)
      | (with_reducible exact LeO.none _)
      | (with_reducible refine LeO.ite ?_ ?_)
      | (with_reducible refine LeO.bind ?_ (fun _ => ?_))
      | exact ih0 _ _ _ _ _ _
      | exact ih1 _ _ _ _ _ _ _ _ _
      | exact ih2 _ _ _ _ _ _
      | exact bids_Baseline.mono _ _ _ _ _
      | exact chargeparklaw30_usable.mono _ _ _
      | exact chargeparkref30_Copy.mono _ _
      | exact LeO.none _
      | refine LeO.ite ?_ ?_
      | refine LeO.bind ?_ (fun _ => ?_)
set_option maxHeartbeats 8000000 in
set_option maxRecDepth 100000 in
theorem chargeparklaw30_BidsDelivery.calls (k : Nat) (A0 : Option Addr) (c0 : Nat) (l0 : List (List Int)) (A1 : Option Addr) (c1 : Nat) (l1 : List Bool) (a2 : Int) (a3 : Int) (r : Bool) (w : World) (hr0 : Kd.C (Kd.slice 3 (Kd.int .i64)) w A0 l0.length l0) (hc0 : l0.length ≤ c0) (hr1 : Kd.C Kd.bool w A1 l1.length l1) (hc1 : l1.length ≤ c1) (h : chargeparklaw30_BidsDelivery.f k l0 l1 a2 a3 = some r) (hr : Aside0 (r = true)) :
    Calls Try.prog 6 #[.slice A0 l0.length c0, .slice A1 l1.length c1, .int .i64 a2, .int .i64 a3] w fun e w' => e = .returned (.bool r) ∧ Below w.heap.size w w' := by
  have HR0 := Aside0.mk hr0
  have HC0 := Aside0.mk hc0
  clear hr0 hc0
  have HR1 := Aside0.mk hr1
  have HC1 := Aside0.mk hc1
  clear hr1 hc1
  have HB := Aside0.mk (Below.refl w.heap.size w)
  have H : ((chargeparklaw30_head_c.f).bind fun _ => ((chargeparklaw30_usable.f k l0 l1).bind fun t238 => (if t238 = true then (if a2 < 0 then (chargeparklaw30_BidsDelivery.j0 k l0 l1 a2 a3 true true) else (if a2 ≥ (l0.length : Int) then (chargeparklaw30_BidsDelivery.j0 k l0 l1 a2 a3 true true) else (chargeparklaw30_BidsDelivery.j0 k l0 l1 a2 a3 true (decide (a3 < 0))))) else (chargeparklaw30_BidsDelivery.j0 k l0 l1 a2 a3 true true)))) = some r := h
  clear h
  replace H := Option.bind_eq_some_iff.mp H
  obtain ⟨tc_, A50, H⟩ := H
  obtain rfl : true = tc_ := Option.some.inj ((show chargeparklaw30_head_c.f = some true by kernel_rfl).symm.trans A50)
  replace H : ((chargeparklaw30_usable.f k l0 l1).bind fun t238 => (if t238 = true then (if a2 < 0 then (chargeparklaw30_BidsDelivery.j0 k l0 l1 a2 a3 true true) else (if a2 ≥ (l0.length : Int) then (chargeparklaw30_BidsDelivery.j0 k l0 l1 a2 a3 true true) else (chargeparklaw30_BidsDelivery.j0 k l0 l1 a2 a3 true (decide (a3 < 0))))) else (chargeparklaw30_BidsDelivery.j0 k l0 l1 a2 a3 true true))) = some r := H
  have A5 := Aside0.mk A50
  clear A50
  replace H := Option.bind_eq_some_iff.mp H
  obtain ⟨t238, A60, H⟩ := H
  replace H : (if t238 = true then (if a2 < 0 then (chargeparklaw30_BidsDelivery.j0 k l0 l1 a2 a3 true true) else (if a2 ≥ (l0.length : Int) then (chargeparklaw30_BidsDelivery.j0 k l0 l1 a2 a3 true true) else (chargeparklaw30_BidsDelivery.j0 k l0 l1 a2 a3 true (decide (a3 < 0))))) else (chargeparklaw30_BidsDelivery.j0 k l0 l1 a2 a3 true true)) = some r := H
  have A6 := Aside0.mk A60
  clear A60
  have HC7 := Aside0.mk H
  clear H
  go_enter Try.func6, Try.ntmps6
  go_upto_region 3 with (first | ((with_reducible refine gate_callee (f := 9) rfl ?_); refine goesL_ (some 25) rfl rfl Try.func9 (by kernel_rfl) rfl #[] rfl (by (try simp only [List.map_toArray, List.map_cons, List.map_nil]); first | done | rfl | (simp only [List.length_drop, List.length_take]; rfl)) ?_; (with_reducible refine (chargeparklaw30_head_c.calls  true _ A5.out).mono ?_); rintro e w8 ⟨rfl, hb⟩; refine ⟨_, rfl, ?_⟩; have n0_ := Aside0.mk (below_step (by repeat (first | (with_reducible first | exact HB.out | apply below_alloc | apply pw_below_drewN | apply below_drew1) | exact HB.out)) hb); clear HB; have HB := n0_; clear n0_; (try clear hb); (try clear hb2); (try clear hk); (try clear hi)) | ((with_reducible refine gate_callee (f := 15) rfl ?_); refine goesL_ (some 28) rfl rfl Try.func15 (by kernel_rfl) rfl #[.slice A0 l0.length c0, .slice A1 l1.length c1] rfl (by (try simp only [List.map_toArray, List.map_cons, List.map_nil]); first | done | rfl | (simp only [List.length_drop, List.length_take]; rfl)) ?_; (with_reducible refine (chargeparklaw30_usable.calls k _ _ l0 _ _ l1 t238 _ ?side1 ?side2 ?side3 ?side4 A6.out).mono ?_); (case side1 => repeat (first | exact (Kd.C_below HR0.out HB.out) | (with_reducible refine Kd.C_alloc ?_ _) | (with_reducible refine Kd.C_drewN ?_ _) | (with_reducible refine Kd.C_drew ?_))); (case side2 => exact HC0.out); (case side3 => repeat (first | exact (Kd.C_below HR1.out HB.out) | (with_reducible refine Kd.C_alloc ?_ _) | (with_reducible refine Kd.C_drewN ?_ _) | (with_reducible refine Kd.C_drew ?_))); (case side4 => exact HC1.out); rintro e w' ⟨rfl, ⟨nd, rfl⟩⟩; refine ⟨_, rfl, ?_⟩))
  (try simp only [Act.put, List.setIfInBounds_toArray, List.set_cons_zero, List.set_cons_succ])
  go_cut [44] (fun v44 wc => ∃ (kq : Nat) (x44_6 : Bool), v44 = .bool x44_6 ∧ Aside0 (chargeparklaw30_BidsDelivery.j0 kq l0 l1 a2 a3 true x44_6 = some r) ∧ Aside0 (kq ≤ k) ∧ Aside0 (Below w.heap.size w wc))
  case first =>
    have H := HC7.out
    clear HC7
    by_cases c9 : t238 = true
    · subst c9
      have H1 : (if a2 < 0 then (chargeparklaw30_BidsDelivery.j0 k l0 l1 a2 a3 true true) else (if a2 ≥ (l0.length : Int) then (chargeparklaw30_BidsDelivery.j0 k l0 l1 a2 a3 true true) else (chargeparklaw30_BidsDelivery.j0 k l0 l1 a2 a3 true (decide (a3 < 0))))) = some r := by first | (rw [if_pos rfl] at H; exact H) | (rw [if_pos trivial] at H; exact H)
      clear H
      have H := H1
      clear H1
      by_cases c10 : a2 < 0
      · rw [if_pos c10] at H
        have c10b0 : decide (a2 < 0) = true := decide_eq_true c10
        clear c10
        (first | rw [c10b0] | (simp only [i64_w, i32_w]; rw [c10b0]) | skip)
        have H' := Aside0.mk H
        clear H
        go_wp2
        go_meet
        case rel => exact ⟨_, (true), (by first | rfl | (simp; done) | (simp [*]; done)), H', ⟨by first | omega | exact Nat.le_refl _⟩, ⟨by repeat (first | (with_reducible first | exact HB.out | apply below_alloc | apply pw_below_drewN | apply below_drew1) | exact HB.out)⟩⟩
      · rw [if_neg c10] at H
        have c10b0 : decide (a2 < 0) = false := decide_eq_false c10
        clear c10
        (first | rw [c10b0] | (simp only [i64_w, i32_w]; rw [c10b0]) | skip)
        by_cases c11 : a2 ≥ (l0.length : Int)
        · rw [if_pos c11] at H
          have c11b0 : decide ((l0.length : Int) ≤ a2) = true := decide_eq_true c11
          clear c11
          have H' := Aside0.mk H
          clear H
          go_wp2
          go_meet
          case rel => exact ⟨_, (true), (by first | rfl | (simp; done) | (simp [*]; done)), H', ⟨by first | omega | exact Nat.le_refl _⟩, ⟨by repeat (first | (with_reducible first | exact HB.out | apply below_alloc | apply pw_below_drewN | apply below_drew1) | exact HB.out)⟩⟩
        · rw [if_neg c11] at H
          have c11b0 : decide ((l0.length : Int) ≤ a2) = false := decide_eq_false c11
          clear c11
          have H' := Aside0.mk H
          clear H
          go_wp2
          go_meet
          case rel => exact ⟨_, (decide (a3 < 0)), (by first | rfl | (simp; done) | (simp [*]; done)), H', ⟨by first | omega | exact Nat.le_refl _⟩, ⟨by repeat (first | (with_reducible first | exact HB.out | apply below_alloc | apply pw_below_drewN | apply below_drew1) | exact HB.out)⟩⟩
    · replace c9 := Bool.eq_false_iff.mpr c9
      subst c9
      have H1 : (chargeparklaw30_BidsDelivery.j0 k l0 l1 a2 a3 true true) = some r := by rw [if_neg (show ¬ (false = true) by decide)] at H; exact H
      clear H
      have H := H1
      clear H1
      have H' := Aside0.mk H
      clear H
      go_wp2
      go_meet
      case rel => exact ⟨_, (true), (by first | rfl | (simp; done) | (simp [*]; done)), H', ⟨by first | omega | exact Nat.le_refl _⟩, ⟨by repeat (first | (with_reducible first | exact HB.out | apply below_alloc | apply pw_below_drewN | apply below_drew1) | exact HB.out)⟩⟩
  case rest =>
    clear HC7
    try clear c1
    try clear p2
    try clear c6
    try clear c9
    try clear c10
    try clear c10b0
    try clear c11
    try clear c11b0
    obtain ⟨kq, x44_6, rfl, HA, HJ6, HB⟩ := hcut
    cases kq with
    | zero => exact absurd HA.out (by simp [chargeparklaw30_BidsDelivery.j0])
    | succ kj6 =>
      have H := HA.out
      clear HA
      simp only [chargeparklaw30_BidsDelivery.j0] at H
      by_cases c12 : x44_6 = true
      · subst c12
        have H1 : (some true) = some r := by first | (rw [if_pos rfl] at H; exact H) | (rw [if_pos trivial] at H; exact H)
        clear H
        have H := H1
        clear H1
        obtain rfl := Option.some.inj H
        simp only [Option.some.injEq, Prod.mk.injEq] at H
        obtain ⟨rfl⟩ := H
        go_wp2
        go_ret
        exact ⟨by first | rfl | (simp [errW_none, errW_some] <;> rfl) | (simp [*, errW_none, errW_some] <;> rfl), by repeat (first | (with_reducible first | exact HB.out | apply below_alloc | apply pw_below_drewN | apply below_drew1) | exact HB.out)⟩
      · replace c12 := Bool.eq_false_iff.mpr c12
        subst c12
        have H1 : (if 0 ≤ a2 then (if a2 < (l0.length : Int) then (if ((rd_L1 l0 a2).length : Int) = 0 then (none) else ((bids_Delivered.f l0 l1 a2).bind fun bt240 => (if bt240.2 = 0 then (chargeparklaw30_BidsDelivery.l0 kj6 l0 l1 a2 true (Int.tmod a3 ((rd_L1 l0 a2).length : Int)) bt240.1 0 0 0) else (if true = true then (if bt240.2 = 4 then (some (bt240.1 == 0)) else (some false)) else (some false))))) else (none)) else (none)) = some r := by rw [if_neg (show ¬ (false = true) by decide)] at H; exact H
        clear H
        have H := H1
        clear H1
        by_cases c13 : 0 ≤ a2
        · rw [if_pos c13] at H
          have c13b0 : decide (0 ≤ a2) = true := decide_eq_true c13
          clear c13
          by_cases c14 : a2 < (l0.length : Int)
          · rw [if_pos c14] at H
            have c14b0 : decide (a2 < (l0.length : Int)) = true := decide_eq_true c14
            clear c14
            by_cases c15 : ((rd_L1 l0 a2).length : Int) = 0
            · rw [if_pos c15] at H
              exact absurd H (by simp)
            · rw [if_neg c15] at H
              have c15b0 : (((rd_L1 l0 a2).length : Int) == 0) = false := beq_eq_false_iff_ne.mpr c15
              have c15b1 : (((rd_L1 l0 a2).length : Int) != 0) = true := bne_iff_ne.mpr c15
              have c15b2 : ¬ ((rd_L1 l0 a2) = []) := fun h_ => c15 (by rw [h_]; rfl)
              replace H := Option.bind_eq_some_iff.mp H
              obtain ⟨⟨t240, t241⟩, A160, H⟩ := H
              replace H : (if t241 = 0 then (chargeparklaw30_BidsDelivery.l0 kj6 l0 l1 a2 true (Int.tmod a3 ((rd_L1 l0 a2).length : Int)) t240 0 0 0) else (if true = true then (if t241 = 4 then (some (t240 == 0)) else (some false)) else (some false))) = some r := H
              have A16 := Aside0.mk A160
              clear A160
              by_cases c17 : t241 = 0
              · rw [if_pos c17] at H
                have c17b0 : (t241 == 0) = true := beq_iff_eq.mpr c17
                have c17b1 : (t241 != 0) = false := bne_eq_false_iff_eq.mpr c17
                clear c17
                have H' := Aside0.mk H
                clear H
                have p239 : 0 ≤ (a2 : Int) := of_decide_eq_true (by first | (with_reducible assumption) | assumption)
                have q239 : a2 < (l0.length : Int) := of_decide_eq_true (by first | (with_reducible assumption) | assumption)
                obtain ⟨ad239, A239_0, c239_0, e239, hx239_0, hl239_0, hi239_0⟩ := at_L1 HR0.out a2 p239 q239
                cases e239
                replace hx239_0 := (HB.out.cell (World.block_lt_of_cell? w _ hx239_0)).trans hx239_0
                have HR239_0 := Aside0.mk hi239_0
                have HC239_0 := Aside0.mk hl239_0
                clear hi239_0 hl239_0
                replace p239 := eq_true p239
                replace q239 := eq_true q239
                go_wp2_with (first | ((with_reducible refine gate_callee (f := 13) rfl ?_); refine goesL_ (some 57) rfl rfl Try.func13 (by kernel_rfl) rfl #[.slice (some ad239) l0.length c0, .slice A1 l1.length c1, .int .i64 a2] rfl (by (try simp only [List.map_toArray, List.map_cons, List.map_nil]); first | done | rfl | (simp only [List.length_drop, List.length_take]; rfl)) ?_; (with_reducible refine (bids_Delivered.calls _ _ l0 _ _ l1 a2 t240 t241 _ ?side1 ?side2 ?side3 ?side4 A16.out).mono ?_); (case side1 => repeat (first | exact (Kd.C_below HR0.out HB.out) | (with_reducible refine Kd.C_alloc ?_ _) | (with_reducible refine Kd.C_drewN ?_ _) | (with_reducible refine Kd.C_drew ?_))); (case side2 => exact HC0.out); (case side3 => repeat (first | exact (Kd.C_below HR1.out HB.out) | (with_reducible refine Kd.C_alloc ?_ _) | (with_reducible refine Kd.C_drewN ?_ _) | (with_reducible refine Kd.C_drew ?_))); (case side4 => exact HC1.out); rintro e w18 ⟨rfl, hb⟩; refine ⟨_, rfl, ?_⟩; have n0_ := Aside0.mk (below_step (by repeat (first | (with_reducible first | exact HB.out | apply below_alloc | apply pw_below_drewN | apply below_drew1) | exact HB.out)) hb); clear HB; have HB := n0_; clear n0_; (try clear hb); (try clear hb2); (try clear hk); (try clear hi)))
                go_loopg [14, 15, 16] kj6 (fun kq v14 v15 v16 w' => ∃ (x14_2 : Int) (x15_2 : Int) (x16_2 : Int), v14 = .int .i64 x14_2 ∧ v15 = .int .i64 x15_2 ∧ v16 = .int .i64 x16_2 ∧ Aside0 (chargeparklaw30_BidsDelivery.l0 kq l0 l1 a2 true (Int.tmod a3 ((rd_L1 l0 a2).length : Int)) t240 x14_2 x15_2 x16_2 = some r) ∧ Aside0 (kq ≤ kj6) ∧ Aside0 (Below w.heap.size w w'))
                case atStart => exact ⟨(0), (0), (0), (by first | rfl | (simp; done) | (simp [*]; done)), (by first | rfl | (simp; done) | (simp [*]; done)), (by first | rfl | (simp; done) | (simp [*]; done)), H', ⟨Nat.le_refl _⟩, ⟨by repeat (first | (with_reducible first | exact HB.out | apply below_alloc | apply pw_below_drewN | apply below_drew1) | exact HB.out)⟩⟩
                case round =>
                  clear H'
                  try clear c1
                  try clear c2
                  try clear p2
                  try clear q2
                  try clear hx2
                  try clear c6
                  try clear c9
                  try clear c10
                  try clear c10b0
                  try clear c11
                  try clear c11b0
                  try clear c12
                  try clear c13
                  try clear c13b0
                  try clear c14
                  try clear c14b0
                  try clear c15
                  try clear c15b0
                  try clear c15b1
                  try clear c15b2
                  try clear c17
                  try clear c17b0
                  try clear c17b1
                  try clear hx239_0
                  try clear p2
                  try clear p239
                  try clear q239
                  obtain ⟨x14_2, x15_2, x16_2, rfl, rfl, rfl, HA, HK2, HB⟩ := hrel
                  cases gk with
                  | zero => exact absurd HA.out (by simp [chargeparklaw30_BidsDelivery.l0])
                  | succ k2 =>
                    have H := HA.out
                    clear HA
                    simp only [chargeparklaw30_BidsDelivery.l0] at H
                    by_cases c19 : 0 ≤ a2
                    · rw [if_pos c19] at H
                      have c19b0 : decide (0 ≤ a2) = true := decide_eq_true c19
                      clear c19
                      by_cases c20 : a2 < (l0.length : Int)
                      · rw [if_pos c20] at H
                        have c20b0 : decide (a2 < (l0.length : Int)) = true := decide_eq_true c20
                        clear c20
                        by_cases c21 : x16_2 < ((rd_L1 l0 a2).length : Int)
                        · rw [if_pos c21] at H
                          have c21b0 : decide (x16_2 < ((rd_L1 l0 a2).length : Int)) = true := decide_eq_true c21
                          clear c21
                          replace H := Option.bind_eq_some_iff.mp H
                          obtain ⟨⟨t243, t244⟩, A220, H⟩ := H
                          replace H : (if t244 = 0 then (if 0 ≤ x16_2 then (chargeparklaw30_BidsDelivery.l0 k2 l0 l1 a2 true (Int.tmod a3 ((rd_L1 l0 a2).length : Int)) t240 (wrap64 (x14_2 + (mx 0 (wrap64 (t243 - (rd (rd_L1 l0 a2) x16_2)))))) (wrap64 (x15_2 + t243)) (wrap64 (x16_2 + 1))) else (none)) else (some false)) = some r := H
                          have A22 := Aside0.mk A220
                          clear A220
                          by_cases c23 : t244 = 0
                          · rw [if_pos c23] at H
                            have c23b0 : (t244 == 0) = true := beq_iff_eq.mpr c23
                            have c23b1 : (t244 != 0) = false := bne_eq_false_iff_eq.mpr c23
                            clear c23
                            by_cases c24 : 0 ≤ x16_2
                            · rw [if_pos c24] at H
                              have c24b0 : decide (0 ≤ x16_2) = true := decide_eq_true c24
                              clear c24
                              obtain ⟨ji25, hji25⟩ : ∃ j_ : Int, (mx 0 (wrap64 (t243 - (rd (rd_L1 l0 a2) x16_2)))) = j_ := ⟨_, rfl⟩
                              replace H : (chargeparklaw30_BidsDelivery.l0 k2 l0 l1 a2 true (Int.tmod a3 ((rd_L1 l0 a2).length : Int)) t240 (wrap64 (x14_2 + (ji25))) (wrap64 (x15_2 + t243)) (wrap64 (x16_2 + 1))) = some r := by first | (rw [hji25] at H; exact H) | (simp only [hji25] at H ⊢; exact H)
                              (try rw [hji25] at A22)
                              have hji25_ : (if 0 < (wrap64 (t243 - (rd (rd_L1 l0 a2) x16_2))) then (wrap64 (t243 - (rd (rd_L1 l0 a2) x16_2))) else 0) = ji25 := hji25
                              have H' := Aside0.mk H
                              clear H
                              have p242 : 0 ≤ (a2 : Int) := of_decide_eq_true (by first | (with_reducible assumption) | assumption)
                              have q242 : a2 < (l0.length : Int) := of_decide_eq_true (by first | (with_reducible assumption) | assumption)
                              obtain ⟨ad242, A242_0, c242_0, e242, hx242_0, hl242_0, hi242_0⟩ := at_L1 HR0.out a2 p242 q242
                              obtain rfl : ad239 = ad242 := (by injection e242)
                              replace hx242_0 := (HB.out.cell (World.block_lt_of_cell? w _ hx242_0)).trans hx242_0
                              have HR242_0 := Aside0.mk hi242_0
                              have HC242_0 := Aside0.mk hl242_0
                              clear hi242_0 hl242_0
                              replace p242 := eq_true p242
                              replace q242 := eq_true q242
                              go_wp2_with (first | ((with_reducible refine gate_callee (f := 11) rfl ?_); refine goesL_ (some 85) rfl rfl Try.func11 (by kernel_rfl) rfl #[.slice (some ad239) l0.length c0, .slice A1 l1.length c1, .int .i64 a2, .int .i64 x16_2] rfl (by (try simp only [List.map_toArray, List.map_cons, List.map_nil]); first | done | rfl | (simp only [List.length_drop, List.length_take]; rfl)) ?_; (with_reducible refine (bids_Baseline.calls k2 _ _ l0 _ _ l1 a2 x16_2 t243 t244 _ ?side1 ?side2 ?side3 ?side4 A22.out).mono ?_); (case side1 => repeat (first | exact (Kd.C_below HR0.out HB.out) | (with_reducible refine Kd.C_alloc ?_ _) | (with_reducible refine Kd.C_drewN ?_ _) | (with_reducible refine Kd.C_drew ?_))); (case side2 => exact HC0.out); (case side3 => repeat (first | exact (Kd.C_below HR1.out HB.out) | (with_reducible refine Kd.C_alloc ?_ _) | (with_reducible refine Kd.C_drewN ?_ _) | (with_reducible refine Kd.C_drew ?_))); (case side4 => exact HC1.out); rintro e w26 ⟨rfl, hb⟩; refine ⟨_, rfl, ?_⟩; have n0_ := Aside0.mk (below_step (by repeat (first | (with_reducible first | exact HB.out | apply below_alloc | apply pw_below_drewN | apply below_drew1) | exact HB.out)) hb); clear HB; have HB := n0_; clear n0_; (try clear hb); (try clear hb2); (try clear hk); (try clear hi); have p245 : 0 ≤ (a2 : Int) := of_decide_eq_true (by first | (with_reducible assumption) | assumption); have q245 : a2 < (l0.length : Int) := of_decide_eq_true (by first | (with_reducible assumption) | assumption); obtain ⟨ad245, A245_0, c245_0, e245, hx245_0, hl245_0, hi245_0⟩ := at_L1 HR0.out a2 p245 q245; obtain rfl : ad239 = ad245 := (by injection e245); replace hx245_0 := (HB.out.cell (World.block_lt_of_cell? w _ hx245_0)).trans hx245_0; have HR245_0 := Aside0.mk hi245_0; have HC245_0 := Aside0.mk hl245_0; clear hi245_0 hl245_0; replace p245 := eq_true p245; replace q245 := eq_true q245; have p246 : 0 ≤ (x16_2 : Int) := of_decide_eq_true (by first | (with_reducible assumption) | assumption); have q246 : x16_2 < ((rd_L1 l0 a2).length : Int) := of_decide_eq_true (by first | (with_reducible assumption) | assumption); obtain ⟨ad246, e246, hx246_0⟩ := Kd.at_int HR245_0.out x16_2 p246 q246; cases e246; replace hx246_0 := (HB.out.cell (World.block_lt_of_cell? w _ hx246_0)).trans hx246_0; replace p246 := eq_true p246; replace q246 := eq_true q246))
                              go_roundg k2
                              case measure => have := HJ6.out; have := HK2.out; omega
                              case rel => exact ⟨(wrap64 (x14_2 + (ji25))), (wrap64 (x15_2 + t243)), (wrap64 (x16_2 + 1)), (by first | rfl | (simp; done) | (simp only [← hji25] <;> (first | rfl | simp)) | (simp [*]; done)), (by first | rfl | (simp; done) | (simp [*]; done)), (by first | rfl | (simp; done) | (simp [*]; done)), H', ⟨by have := HJ6.out; have := HK2.out; omega⟩, ⟨by repeat (first | (with_reducible first | exact HB.out | apply below_alloc | apply pw_below_drewN | apply below_drew1) | exact HB.out)⟩⟩
                            · rw [if_neg c24] at H
                              exact absurd H (by simp)
                          · rw [if_neg c23] at H
                            have c23b0 : (t244 == 0) = false := beq_eq_false_iff_ne.mpr c23
                            have c23b1 : (t244 != 0) = true := bne_iff_ne.mpr c23
                            obtain rfl := Option.some.inj H
                            exact absurd hr.out (by decide)
                        · rw [if_neg c21] at H
                          have c21b0 : decide (x16_2 < ((rd_L1 l0 a2).length : Int)) = false := decide_eq_false c21
                          clear c21
                          have HC27 := Aside0.mk H
                          clear H
                          have p242 : 0 ≤ (a2 : Int) := of_decide_eq_true (by first | (with_reducible assumption) | assumption)
                          have q242 : a2 < (l0.length : Int) := of_decide_eq_true (by first | (with_reducible assumption) | assumption)
                          obtain ⟨ad242, A242_0, c242_0, e242, hx242_0, hl242_0, hi242_0⟩ := at_L1 HR0.out a2 p242 q242
                          obtain rfl : ad239 = ad242 := (by injection e242)
                          replace hx242_0 := (HB.out.cell (World.block_lt_of_cell? w _ hx242_0)).trans hx242_0
                          have HR242_0 := Aside0.mk hi242_0
                          have HC242_0 := Aside0.mk hl242_0
                          clear hi242_0 hl242_0
                          replace p242 := eq_true p242
                          replace q242 := eq_true q242
                          go_upto_region 19 with (fail)
                          go_cut [9] (fun v9 wc => ∃ (kq : Nat) (x9_26 : Bool), v9 = .bool x9_26 ∧ Aside0 (chargeparklaw30_BidsDelivery.j2 kq l0 l1 a2 x9_26 (Int.tmod a3 ((rd_L1 l0 a2).length : Int)) t240 = some r) ∧ Aside0 (kq ≤ k2) ∧ Aside0 (Below w.heap.size w wc))
                          case first =>
                            have H := HC27.out
                            clear HC27
                            by_cases c28 : (true = true)
                            · clear c28
                              have H1 : (if t240 = x14_2 then (if t240 ≥ 0 then (chargeparklaw30_BidsDelivery.j2 k2 l0 l1 a2 (decide (t240 ≤ x15_2)) (Int.tmod a3 ((rd_L1 l0 a2).length : Int)) t240) else (chargeparklaw30_BidsDelivery.j2 k2 l0 l1 a2 false (Int.tmod a3 ((rd_L1 l0 a2).length : Int)) t240)) else (chargeparklaw30_BidsDelivery.j2 k2 l0 l1 a2 false (Int.tmod a3 ((rd_L1 l0 a2).length : Int)) t240)) = some r := by first | (rw [if_pos rfl] at H; exact H) | (rw [if_pos trivial] at H; exact H)
                              clear H
                              have H := H1
                              clear H1
                              by_cases c29 : t240 = x14_2
                              · rw [if_pos c29] at H
                                have c29b0 : (t240 == x14_2) = true := beq_iff_eq.mpr c29
                                have c29b1 : (t240 != x14_2) = false := bne_eq_false_iff_eq.mpr c29
                                clear c29
                                (first | rw [c29b0] | (simp only [i64_w, i32_w]; rw [c29b0]) | skip)
                                by_cases c30 : t240 ≥ 0
                                · rw [if_pos c30] at H
                                  have c30b0 : decide (0 ≤ t240) = true := decide_eq_true c30
                                  clear c30
                                  have H' := Aside0.mk H
                                  clear H
                                  go_wp2
                                  go_meet
                                  case rel => exact ⟨_, (decide (t240 ≤ x15_2)), (by first | rfl | (simp; done) | (simp [*]; done)), H', ⟨by have := HJ6.out; have := HK2.out; first | omega | exact Nat.le_refl _⟩, ⟨by repeat (first | (with_reducible first | exact HB.out | apply below_alloc | apply pw_below_drewN | apply below_drew1) | exact HB.out)⟩⟩
                                · rw [if_neg c30] at H
                                  have c30b0 : decide (0 ≤ t240) = false := decide_eq_false c30
                                  clear c30
                                  have H' := Aside0.mk H
                                  clear H
                                  go_wp2
                                  go_meet
                                  case rel => exact ⟨_, (false), (by first | rfl | (simp; done) | (simp [*]; done)), H', ⟨by have := HJ6.out; have := HK2.out; first | omega | exact Nat.le_refl _⟩, ⟨by repeat (first | (with_reducible first | exact HB.out | apply below_alloc | apply pw_below_drewN | apply below_drew1) | exact HB.out)⟩⟩
                              · rw [if_neg c29] at H
                                have c29b0 : (t240 == x14_2) = false := beq_eq_false_iff_ne.mpr c29
                                have c29b1 : (t240 != x14_2) = true := bne_iff_ne.mpr c29
                                (first | rw [c29b0] | (simp only [i64_w, i32_w]; rw [c29b0]) | skip)
                                have H' := Aside0.mk H
                                clear H
                                go_wp2
                                go_meet
                                case rel => exact ⟨_, (false), (by first | rfl | (simp; done) | (simp [*]; done)), H', ⟨by have := HJ6.out; have := HK2.out; first | omega | exact Nat.le_refl _⟩, ⟨by repeat (first | (with_reducible first | exact HB.out | apply below_alloc | apply pw_below_drewN | apply below_drew1) | exact HB.out)⟩⟩
                            · exact absurd rfl c28
                          case rest =>
                            clear HC27
                            try clear c1
                            try clear c2
                            try clear p2
                            try clear q2
                            try clear hx2
                            try clear c3
                            try clear c6
                            try clear p6
                            try clear c9
                            try clear c10
                            try clear c10b0
                            try clear c11
                            try clear c11b0
                            try clear c12
                            try clear c13
                            try clear c13b0
                            try clear c14
                            try clear c14b0
                            try clear c15
                            try clear c15b0
                            try clear c15b1
                            try clear c15b2
                            try clear c17
                            try clear c17b0
                            try clear c17b1
                            try clear c19
                            try clear c19b0
                            try clear c20
                            try clear c20b0
                            try clear c21
                            try clear c21b0
                            try clear c23
                            try clear c23b0
                            try clear c23b1
                            try clear p23
                            try clear q23
                            try clear hx23
                            try clear c24
                            try clear c24b0
                            try clear p24
                            try clear q24
                            try clear hx24
                            try clear c28
                            try clear c29
                            try clear c29b0
                            try clear c29b1
                            try clear c30
                            try clear c30b0
                            try clear hx239_0
                            try clear hx242_0
                            try clear hx245_0
                            try clear hx246_0
                            try clear p2
                            try clear p239
                            try clear p242
                            try clear p245
                            try clear p246
                            try clear q2
                            try clear q239
                            try clear q242
                            try clear q245
                            try clear q246
                            obtain ⟨kq, x9_26, rfl, HA, HJ26, HB⟩ := hcut
                            cases kq with
                            | zero => exact absurd HA.out (by simp [chargeparklaw30_BidsDelivery.j2])
                            | succ kj26 =>
                              have H := HA.out
                              clear HA
                              simp only [chargeparklaw30_BidsDelivery.j2] at H
                              by_cases c31 : 0 ≤ a2
                              · rw [if_pos c31] at H
                                have c31b0 : decide (0 ≤ a2) = true := decide_eq_true c31
                                clear c31
                                by_cases c32 : a2 < (l0.length : Int)
                                · rw [if_pos c32] at H
                                  have c32b0 : decide (a2 < (l0.length : Int)) = true := decide_eq_true c32
                                  clear c32
                                  obtain ⟨ji33, hji33⟩ : ∃ j_ : Int, (Int.tmod a3 ((rd_L1 l0 a2).length : Int)) = j_ := ⟨_, rfl⟩
                                  replace H : (if 0 ≤ (ji33) then (if (ji33) < ((rd_L1 l0 a2).length : Int) then (if (rd (rd_L1 l0 a2) (ji33)) = 0 then (some x9_26) else ((chargeparkref30_Copy.f kj26 l0).bind fun t249 => (if a2 < (t249.length : Int) then (if (ji33) < ((rd_L1 t249 a2).length : Int) then ((bids_Delivered.f (t249.set (a2 : Int).toNat ((rd_L1 t249 a2).set ((ji33) : Int).toNat (wrap64 ((rd (rd_L1 t249 a2) (ji33)) - 1)))) l1 a2).bind fun bt257 => ((bids_Baseline.f kj26 l0 l1 a2 (ji33)).bind fun bt259 => (if (rd (rd_L1 l0 a2) (ji33)) ≤ bt259.1 then (if x9_26 = true then (if bt257.2 = 0 then (if bt259.2 = 0 then (some (bt257.1 == (wrap64 (t240 + 1)))) else (some false)) else (some false)) else (some false)) else (if x9_26 = true then (if bt257.2 = 0 then (if bt259.2 = 0 then (some (bt257.1 == (wrap64 (t240 + 0)))) else (some false)) else (some false)) else (some false))))) else (none)) else (none)))) else (none)) else (none)) = some r := by first | (rw [hji33] at H; exact H) | (simp only [hji33] at H ⊢; exact H)
                                  by_cases c34 : 0 ≤ (ji33)
                                  · rw [if_pos c34] at H
                                    have c34b0 : decide (0 ≤ (ji33)) = true := decide_eq_true c34
                                    clear c34
                                    by_cases c35 : (ji33) < ((rd_L1 l0 a2).length : Int)
                                    · rw [if_pos c35] at H
                                      have c35b0 : decide ((ji33) < ((rd_L1 l0 a2).length : Int)) = true := decide_eq_true c35
                                      clear c35
                                      by_cases c36 : (rd (rd_L1 l0 a2) (ji33)) = 0
                                      · rw [if_pos c36] at H
                                        have c36b0 : ((rd (rd_L1 l0 a2) (ji33)) == 0) = true := beq_iff_eq.mpr c36
                                        have c36b1 : ((rd (rd_L1 l0 a2) (ji33)) != 0) = false := bne_eq_false_iff_eq.mpr c36
                                        clear c36
                                        obtain rfl := Option.some.inj H
                                        simp only [Option.some.injEq, Prod.mk.injEq] at H
                                        obtain ⟨rfl⟩ := H
                                        have p247 : 0 ≤ (a2 : Int) := of_decide_eq_true (by first | (with_reducible assumption) | assumption)
                                        have q247 : a2 < (l0.length : Int) := of_decide_eq_true (by first | (with_reducible assumption) | assumption)
                                        obtain ⟨ad247, A247_0, c247_0, e247, hx247_0, hl247_0, hi247_0⟩ := at_L1 HR0.out a2 p247 q247
                                        obtain rfl : ad239 = ad247 := (by injection e247)
                                        replace hx247_0 := (HB.out.cell (World.block_lt_of_cell? w _ hx247_0)).trans hx247_0
                                        have HR247_0 := Aside0.mk hi247_0
                                        have HC247_0 := Aside0.mk hl247_0
                                        clear hi247_0 hl247_0
                                        replace p247 := eq_true p247
                                        replace q247 := eq_true q247
                                        have p248 : 0 ≤ ((ji33) : Int) := of_decide_eq_true (by first | (with_reducible assumption) | assumption)
                                        have q248 : (ji33) < ((rd_L1 l0 a2).length : Int) := of_decide_eq_true (by first | (with_reducible assumption) | assumption)
                                        obtain ⟨ad248, e248, hx248_0⟩ := Kd.at_int HR247_0.out (ji33) p248 q248
                                        cases e248
                                        replace hx248_0 := (HB.out.cell (World.block_lt_of_cell? w _ hx248_0)).trans hx248_0
                                        replace p248 := eq_true p248
                                        replace q248 := eq_true q248
                                        go_wp2
                                        go_ret
                                        exact ⟨by first | rfl | (simp [errW_none, errW_some] <;> rfl) | (simp only [← hji33]; first | rfl | (simp [errW_none, errW_some] <;> rfl)) | (simp [*, errW_none, errW_some] <;> rfl), by repeat (first | (with_reducible first | exact HB.out | apply below_alloc | apply pw_below_drewN | apply below_drew1) | exact HB.out)⟩
                                      · rw [if_neg c36] at H
                                        have c36b0 : ((rd (rd_L1 l0 a2) (ji33)) == 0) = false := beq_eq_false_iff_ne.mpr c36
                                        have c36b1 : ((rd (rd_L1 l0 a2) (ji33)) != 0) = true := bne_iff_ne.mpr c36
                                        replace H := Option.bind_eq_some_iff.mp H
                                        obtain ⟨t249, A370, H⟩ := H
                                        replace H : (if a2 < (t249.length : Int) then (if (ji33) < ((rd_L1 t249 a2).length : Int) then ((bids_Delivered.f (t249.set (a2 : Int).toNat ((rd_L1 t249 a2).set ((ji33) : Int).toNat (wrap64 ((rd (rd_L1 t249 a2) (ji33)) - 1)))) l1 a2).bind fun bt257 => ((bids_Baseline.f kj26 l0 l1 a2 (ji33)).bind fun bt259 => (if (rd (rd_L1 l0 a2) (ji33)) ≤ bt259.1 then (if x9_26 = true then (if bt257.2 = 0 then (if bt259.2 = 0 then (some (bt257.1 == (wrap64 (t240 + 1)))) else (some false)) else (some false)) else (some false)) else (if x9_26 = true then (if bt257.2 = 0 then (if bt259.2 = 0 then (some (bt257.1 == (wrap64 (t240 + 0)))) else (some false)) else (some false)) else (some false))))) else (none)) else (none)) = some r := H
                                        have A37 := Aside0.mk A370
                                        clear A370
                                        by_cases c38 : a2 < (t249.length : Int)
                                        · rw [if_pos c38] at H
                                          have c38b0 : decide (a2 < (t249.length : Int)) = true := decide_eq_true c38
                                          clear c38
                                          by_cases c39 : (ji33) < ((rd_L1 t249 a2).length : Int)
                                          · rw [if_pos c39] at H
                                            have c39b0 : decide ((ji33) < ((rd_L1 t249 a2).length : Int)) = true := decide_eq_true c39
                                            clear c39
                                            obtain ⟨y254, hy254⟩ : ∃ y_ : List Int, y_ = ((rd_L1 t249 a2).set ((ji33) : Int).toNat (wrap64 ((rd (rd_L1 t249 a2) (ji33)) - 1))) := ⟨_, rfl⟩
                                            replace H : ((bids_Delivered.f (t249.set (a2 : Int).toNat y254) l1 a2).bind fun bt257 => ((bids_Baseline.f kj26 l0 l1 a2 (ji33)).bind fun bt259 => (if (rd (rd_L1 l0 a2) (ji33)) ≤ bt259.1 then (if x9_26 = true then (if bt257.2 = 0 then (if bt259.2 = 0 then (some (bt257.1 == (wrap64 (t240 + 1)))) else (some false)) else (some false)) else (some false)) else (if x9_26 = true then (if bt257.2 = 0 then (if bt259.2 = 0 then (some (bt257.1 == (wrap64 (t240 + 0)))) else (some false)) else (some false)) else (some false))))) = some r := by first | (rw [hy254]; with_reducible exact H) | (have H2_ := (Option.bind_some _ _).symm.trans H; rw [hy254]; with_reducible exact H2_) | (have H2_ := (Option.bind_some _ _).symm.trans H; with_reducible exact H2_) | with_reducible exact H | (rw [hy254]; exact H) | exact H
                                            have Ny254 := Aside0.mk hy254
                                            clear hy254
                                            obtain ⟨y256, hy256⟩ : ∃ y_ : List (List Int), y_ = (t249.set (a2 : Int).toNat y254) := ⟨_, rfl⟩
                                            replace H : ((bids_Delivered.f y256 l1 a2).bind fun bt257 => ((bids_Baseline.f kj26 l0 l1 a2 (ji33)).bind fun bt259 => (if (rd (rd_L1 l0 a2) (ji33)) ≤ bt259.1 then (if x9_26 = true then (if bt257.2 = 0 then (if bt259.2 = 0 then (some (bt257.1 == (wrap64 (t240 + 1)))) else (some false)) else (some false)) else (some false)) else (if x9_26 = true then (if bt257.2 = 0 then (if bt259.2 = 0 then (some (bt257.1 == (wrap64 (t240 + 0)))) else (some false)) else (some false)) else (some false))))) = some r := by first | (rw [hy256]; with_reducible exact H) | (have H2_ := (Option.bind_some _ _).symm.trans H; rw [hy256]; with_reducible exact H2_) | (have H2_ := (Option.bind_some _ _).symm.trans H; with_reducible exact H2_) | with_reducible exact H | (rw [hy256]; exact H) | exact H
                                            have Ny256 := Aside0.mk hy256
                                            clear hy256
                                            replace H := Option.bind_eq_some_iff.mp H
                                            obtain ⟨⟨t257, t258⟩, A410, H⟩ := H
                                            replace H : ((bids_Baseline.f kj26 l0 l1 a2 (ji33)).bind fun bt259 => (if (rd (rd_L1 l0 a2) (ji33)) ≤ bt259.1 then (if x9_26 = true then (if t258 = 0 then (if bt259.2 = 0 then (some (t257 == (wrap64 (t240 + 1)))) else (some false)) else (some false)) else (some false)) else (if x9_26 = true then (if t258 = 0 then (if bt259.2 = 0 then (some (t257 == (wrap64 (t240 + 0)))) else (some false)) else (some false)) else (some false)))) = some r := H
                                            have A41 := Aside0.mk A410
                                            clear A410
                                            replace H := Option.bind_eq_some_iff.mp H
                                            obtain ⟨⟨t259, t260⟩, A420, H⟩ := H
                                            replace H : (if (rd (rd_L1 l0 a2) (ji33)) ≤ t259 then (if x9_26 = true then (if t258 = 0 then (if t260 = 0 then (some (t257 == (wrap64 (t240 + 1)))) else (some false)) else (some false)) else (some false)) else (if x9_26 = true then (if t258 = 0 then (if t260 = 0 then (some (t257 == (wrap64 (t240 + 0)))) else (some false)) else (some false)) else (some false))) = some r := H
                                            have A42 := Aside0.mk A420
                                            clear A420
                                            by_cases c43 : (rd (rd_L1 l0 a2) (ji33)) ≤ t259
                                            · rw [if_pos c43] at H
                                              have c43b0 : decide ((rd (rd_L1 l0 a2) (ji33)) ≤ t259) = true := decide_eq_true c43
                                              clear c43
                                              by_cases c44 : x9_26 = true
                                              · subst c44
                                                have H1 : (if t258 = 0 then (if t260 = 0 then (some (t257 == (wrap64 (t240 + 1)))) else (some false)) else (some false)) = some r := by first | (rw [if_pos rfl] at H; exact H) | (rw [if_pos trivial] at H; exact H)
                                                clear H
                                                have H := H1
                                                clear H1
                                                by_cases c45 : t258 = 0
                                                · rw [if_pos c45] at H
                                                  have c45b0 : (t258 == 0) = true := beq_iff_eq.mpr c45
                                                  have c45b1 : (t258 != 0) = false := bne_eq_false_iff_eq.mpr c45
                                                  clear c45
                                                  by_cases c46 : t260 = 0
                                                  · rw [if_pos c46] at H
                                                    have c46b0 : (t260 == 0) = true := beq_iff_eq.mpr c46
                                                    have c46b1 : (t260 != 0) = false := bne_eq_false_iff_eq.mpr c46
                                                    clear c46
                                                    obtain rfl := Option.some.inj H
                                                    simp only [Option.some.injEq, Prod.mk.injEq] at H
                                                    obtain ⟨rfl⟩ := H
                                                    have p247 : 0 ≤ (a2 : Int) := of_decide_eq_true (by first | (with_reducible assumption) | assumption)
                                                    have q247 : a2 < (l0.length : Int) := of_decide_eq_true (by first | (with_reducible assumption) | assumption)
                                                    obtain ⟨ad247, A247_0, c247_0, e247, hx247_0, hl247_0, hi247_0⟩ := at_L1 HR0.out a2 p247 q247
                                                    obtain rfl : ad239 = ad247 := (by injection e247)
                                                    replace hx247_0 := (HB.out.cell (World.block_lt_of_cell? w _ hx247_0)).trans hx247_0
                                                    have HR247_0 := Aside0.mk hi247_0
                                                    have HC247_0 := Aside0.mk hl247_0
                                                    clear hi247_0 hl247_0
                                                    replace p247 := eq_true p247
                                                    replace q247 := eq_true q247
                                                    have p248 : 0 ≤ ((ji33) : Int) := of_decide_eq_true (by first | (with_reducible assumption) | assumption)
                                                    have q248 : (ji33) < ((rd_L1 l0 a2).length : Int) := of_decide_eq_true (by first | (with_reducible assumption) | assumption)
                                                    obtain ⟨ad248, e248, hx248_0⟩ := Kd.at_int HR247_0.out (ji33) p248 q248
                                                    cases e248
                                                    replace hx248_0 := (HB.out.cell (World.block_lt_of_cell? w _ hx248_0)).trans hx248_0
                                                    replace p248 := eq_true p248
                                                    replace q248 := eq_true q248
                                                    go_wp2_with (first | ((with_reducible refine gate_callee (f := 17) rfl ?_); refine goesL_ (some 130) rfl rfl Try.func17 (by kernel_rfl) rfl #[.slice (some ad239) l0.length c0] rfl (by (try simp only [List.map_toArray, List.map_cons, List.map_nil]); first | done | rfl | (simp only [List.length_drop, List.length_take]; rfl)) ?_; (with_reducible refine (chargeparkref30_Copy.calls kj26 _ _ l0 t249 _ ?side1 ?side2 A37.out).mono ?_); (case side1 => repeat (first | exact (Kd.C_below HR0.out HB.out) | (with_reducible refine Kd.C_alloc ?_ _) | (with_reducible refine Kd.C_drewN ?_ _) | (with_reducible refine Kd.C_drew ?_))); (case side2 => exact HC0.out); rintro e w47 ⟨v250, rfl, ho0, hb⟩; refine ⟨_, rfl, ?_⟩; have n0_ := Aside0.mk (Kd.S_lower ho0 (below_size (by repeat (first | (with_reducible first | exact HB.out | apply below_alloc | apply pw_below_drewN | apply below_drew1) | exact HB.out)))); have n1_ := Aside0.mk (below_step (by repeat (first | (with_reducible first | exact HB.out | apply below_alloc | apply pw_below_drewN | apply below_drew1) | exact HB.out)) hb); clear HB; have HO251 := n0_; have HB := n1_; clear n0_ n1_; (try clear hb); (try clear hb2); (try clear hk); (try clear hi); (try clear ho0); obtain ⟨Ao48, co48, eo48⟩ := Kd.S_slice HO251.out; subst eo48; have p252 : 0 ≤ (a2 : Int) := of_decide_eq_true (by first | (with_reducible assumption) | assumption); have q252 : a2 < (t249.length : Int) := of_decide_eq_true (by first | (with_reducible assumption) | assumption); obtain ⟨ad252, A252_0, c252_0, e252, hx252_0, hl252_0, hi252_0⟩ := at_L1 (Kd.S_reads' HO251.out).2.2 a2 p252 q252; cases e252; obtain ⟨ce252, hce252, hMe252, hcc252⟩ := Kd.S_get HO251.out [] a2 p252 (by first | exact q252 | exact of_decide_eq_true (by first | (with_reducible assumption) | assumption) | (have e_ := (Kd.S_reads' HO251.out).1; omega)); obtain ⟨ve252_0, rfl, ge252_0⟩ := hMe252; have hv252_0 := hcc252 0 _ rfl; rw [Nat.add_zero, show ((Kd.slice 3 (Kd.int .i64))).sz = 1 from rfl, Nat.mul_one] at hv252_0; replace hv252_0 := Option.some.inj (hv252_0.symm.trans hx252_0); rw [hv252_0] at ge252_0; have HL252_0 := Aside0.mk (show Kd.R (Kd.int .i64) 3 _ _ _ _ (rd_L1 t249 a2) from ge252_0); clear hv252_0 ge252_0; have HX252_0 := Aside0.mk hx252_0; clear hcc252 hce252; have HR252_0 := Aside0.mk hi252_0; have HC252_0 := Aside0.mk hl252_0; clear hi252_0 hl252_0; replace p252 := eq_true p252; replace q252 := eq_true q252; have p253 : 0 ≤ ((ji33) : Int) := of_decide_eq_true (by first | (with_reducible assumption) | assumption); have q253 : (ji33) < ((rd_L1 t249 a2).length : Int) := of_decide_eq_true (by first | (with_reducible assumption) | assumption); obtain ⟨ad253, e253, hx253_0⟩ := Kd.at_int (by repeat (first | (with_reducible exact HR252_0.out) | (with_reducible refine Kd.C_alloc ?_ _) | (with_reducible refine Kd.C_drewN ?_ _) | (with_reducible refine Kd.C_drew ?_) | exact HR252_0.out)) (ji33) p253 q253; cases e253; replace p253 := eq_true p253; replace q253 := eq_true q253; have p40 : 0 ≤ ((ji33) : Int) := of_decide_eq_true (by first | (with_reducible assumption) | assumption); have q40 : ((ji33) : Int) < (((rd_L1 t249 a2).length : Int) : Int) := of_decide_eq_true (by first | (with_reducible assumption) | assumption); obtain ⟨go40, co40, eo40, gb40, gl40, cl40, HG40⟩ := Kd.R_form HL252_0.out (by omega); (first | cases eo40 | (injection eo40 with ea_ en_ ec_; (first | subst ea_ | (injection ea_ with ea_; subst ea_)); subst ec_; clear en_)); have GB40 := Aside0.mk gb40; have GG40 := Aside0.mk HG40; clear gb40 gl40 HG40; (first | simp only [add_plain] at hx253_0 | skip); obtain ⟨hx40_0, hf40_0⟩ := Kd.R_celln 0 HL252_0.out ((ji33) : Int) p40 q40; replace p40 := eq_true p40; replace q40 := eq_true q40; have hq49 : (a2 : Int) < (t249.length : Int) := (by have h_ : (a2 : Int) < ((t249.length : Int) : Int) := of_decide_eq_true (by first | (with_reducible assumption) | assumption); first | exact h_ | (have e_ := (Kd.S_reads' HO251.out).1; omega) | simpa only [List.length_set, List.length_set] using h_); obtain ⟨oki49, ce49, hcl49, hM49, hcc49, hok49, hbk49⟩ := Kd.S_borrow HO251.out [] (a2 : Int) (of_decide_eq_true (by first | (with_reducible assumption) | assumption)) hq49; obtain ⟨ve49_0, rfl, ge49_0⟩ := hM49; have hv49 := hcc49 0 _ rfl; rw [Nat.add_zero, show ((Kd.slice 3 (Kd.int .i64))).sz = 1 from rfl, Nat.mul_one] at hv49; replace hv49 := Option.some.inj (hv49.symm.trans HX252_0.out); subst hv49; clear hcc49 hcl49; replace ge49_0 := (show Kd.R (Kd.int .i64) 3 _ _ _ _ (rd_L1 t249 a2) from ge49_0); have HP49 := Kd.R_putg ge49_0 ((ji33) : Int) (wrap64 ((rd (rd_L1 t249 a2) (ji33)) - 1))) | ((with_reducible refine gate_store (t := 3) (p := 139) rfl ?_); refine store_event (t := 3) (p := 139) (v := ?vo_w50) (w1 := (w47.setCell ⟨go40, ((ji33) : Int).toNat, none⟩ (.int .i64 (wrap64 ((rd (rd_L1 t249 a2) (ji33)) - 1))))) ?hg ?ho ?hn ?hr ?_; (case ho => rfl); (case hg => rfl); (case hn => rfl); (case hr => first | (go_simp; done) | (go_simp; rfl)); intro w50 hw; have hg : w47.grownBy w50 (some go40) := (by rw [hw]; exact HP49.2); have hz_ : Kd.R (Kd.int .i64) 3 w50 w.heap.size oki49 (.slice (some ⟨go40, 0, none⟩) (rd_L1 t249 a2).length c252_0) y254 := (by rw [hw, Ny254.out]; exact HP49.1); have hp_ : Kd.S (Kd.slice 3 (Kd.int .i64)) 33 w50 w.heap.size (fun _ => True) (.slice (some ad252) t249.length co48) y256 := (by rw [Ny256.out]; exact hbk49 hg (fun k_ e_ => by injection e_ with e_; subst e_; exact ge49_0.1 _ rfl) (Kd.M_row hz_)); have hm_ := Kd.R_mono hz_ hok49; clear HP49 hbk49; have n0_ := Aside0.mk (hp_); have n1_ := Aside0.mk ((by rw [hw]; exact below_set (HB.out) GB40.out : Below w.heap.size w w50)); have n2_ := Aside0.mk (hm_); have n3_ := Aside0.mk ((Kd.R_reads' hm_).2.1); clear HO251; clear HB; clear HL252_0; have HO251 := n0_; have HB := n1_; have HL263 := n2_; have HC255 := n3_; clear n0_ n1_ n2_ n3_; clear hg hw hp_ hz_ hm_ hok49) | ((with_reducible refine gate_callee (f := 13) rfl ?_); refine goesL_ (some 144) rfl rfl Try.func13 (by kernel_rfl) rfl #[.slice (some ad252) y256.length co48, .slice A1 l1.length c1, .int .i64 a2] rfl (by (try simp only [List.map_toArray, List.map_cons, List.map_nil]); first | done | (rw [show y256.length = t249.length from (Kd.S_reads' HO251.out).1.symm] <;> rfl) | rfl | (simp only [List.length_drop, List.length_take]; rfl)) ?_; (with_reducible refine (bids_Delivered.calls _ _ y256 _ _ l1 a2 t257 t258 _ ?side1 ?side2 ?side3 ?side4 A41.out).mono ?_); (case side1 => repeat (first | exact (Kd.S_reads' HO251.out).2.2 | (with_reducible refine Kd.C_alloc ?_ _) | (with_reducible refine Kd.C_drewN ?_ _) | (with_reducible refine Kd.C_drew ?_))); (case side2 => rw [show y256.length = t249.length from (Kd.S_reads' HO251.out).1.symm]; exact (Kd.S_reads' HO251.out).2.1); (case side3 => repeat (first | exact (Kd.C_below HR1.out HB.out) | (with_reducible refine Kd.C_alloc ?_ _) | (with_reducible refine Kd.C_drewN ?_ _) | (with_reducible refine Kd.C_drew ?_))); (case side4 => exact HC1.out); rintro e w51 ⟨rfl, hb⟩; refine ⟨_, rfl, ?_⟩; have n0_ := Aside0.mk (Kd.S_below (by (with_reducible repeat (first | apply Kd.S_alloc | apply Kd.S_drewN | apply Kd.S_drew)); exact HO251.out) hb); have n1_ := Aside0.mk (Kd.R_below (by (with_reducible repeat (first | apply Kd.R_alloc | apply Kd.R_drewN | apply Kd.R_drew)); exact HL263.out) hb); have n2_ := Aside0.mk (below_step (by repeat (first | (with_reducible first | exact HB.out | apply below_alloc | apply pw_below_drewN | apply below_drew1) | exact HB.out)) hb); clear HO251; clear HL263; clear HB; have HO251 := n0_; have HL263 := n1_; have HB := n2_; clear n0_ n1_ n2_; (try clear hb); (try clear hb2); (try clear hk); (try clear hi)) | ((with_reducible refine gate_callee (f := 11) rfl ?_); refine goesL_ (some 152) rfl rfl Try.func11 (by kernel_rfl) rfl #[.slice (some ad239) l0.length c0, .slice A1 l1.length c1, .int .i64 a2, .int .i64 (ji33)] rfl (by (try simp only [List.map_toArray, List.map_cons, List.map_nil]); first | done | (simp only [hji33]; rfl) | rfl | (simp only [List.length_drop, List.length_take]; rfl)) ?_; (with_reducible refine (bids_Baseline.calls kj26 _ _ l0 _ _ l1 a2 (ji33) t259 t260 _ ?side1 ?side2 ?side3 ?side4 A42.out).mono ?_); (case side1 => repeat (first | exact (Kd.C_below HR0.out HB.out) | (with_reducible refine Kd.C_alloc ?_ _) | (with_reducible refine Kd.C_drewN ?_ _) | (with_reducible refine Kd.C_drew ?_))); (case side2 => exact HC0.out); (case side3 => repeat (first | exact (Kd.C_below HR1.out HB.out) | (with_reducible refine Kd.C_alloc ?_ _) | (with_reducible refine Kd.C_drewN ?_ _) | (with_reducible refine Kd.C_drew ?_))); (case side4 => exact HC1.out); rintro e w52 ⟨rfl, hb⟩; refine ⟨_, rfl, ?_⟩; have n0_ := Aside0.mk (Kd.S_below (by (with_reducible repeat (first | apply Kd.S_alloc | apply Kd.S_drewN | apply Kd.S_drew)); exact HO251.out) hb); have n1_ := Aside0.mk (Kd.R_below (by (with_reducible repeat (first | apply Kd.R_alloc | apply Kd.R_drewN | apply Kd.R_drew)); exact HL263.out) hb); have n2_ := Aside0.mk (below_step (by repeat (first | (with_reducible first | exact HB.out | apply below_alloc | apply pw_below_drewN | apply below_drew1) | exact HB.out)) hb); clear HO251; clear HL263; clear HB; have HO251 := n0_; have HL263 := n1_; have HB := n2_; clear n0_ n1_ n2_; (try clear hb); (try clear hb2); (try clear hk); (try clear hi); have p261 : 0 ≤ (a2 : Int) := of_decide_eq_true (by first | (with_reducible assumption) | assumption); have q261 : a2 < (l0.length : Int) := of_decide_eq_true (by first | (with_reducible assumption) | assumption); obtain ⟨ad261, A261_0, c261_0, e261, hx261_0, hl261_0, hi261_0⟩ := at_L1 HR0.out a2 p261 q261; obtain rfl : ad239 = ad261 := (by injection e261); replace hx261_0 := (HB.out.cell (World.block_lt_of_cell? w _ hx261_0)).trans hx261_0; have HR261_0 := Aside0.mk hi261_0; have HC261_0 := Aside0.mk hl261_0; clear hi261_0 hl261_0; replace p261 := eq_true p261; replace q261 := eq_true q261; have p262 : 0 ≤ ((ji33) : Int) := of_decide_eq_true (by first | (with_reducible assumption) | assumption); have q262 : (ji33) < ((rd_L1 l0 a2).length : Int) := of_decide_eq_true (by first | (with_reducible assumption) | assumption); obtain ⟨ad262, e262, hx262_0⟩ := Kd.at_int HR261_0.out (ji33) p262 q262; cases e262; replace hx262_0 := (HB.out.cell (World.block_lt_of_cell? w _ hx262_0)).trans hx262_0; replace p262 := eq_true p262; replace q262 := eq_true q262))
                                                    go_ret
                                                    exact ⟨by first | rfl | (simp [errW_none, errW_some] <;> rfl) | (simp only [← hji33]; first | rfl | (simp [errW_none, errW_some] <;> rfl)) | (simp [*, errW_none, errW_some] <;> rfl), by repeat (first | (with_reducible first | exact HB.out | apply below_alloc | apply pw_below_drewN | apply below_drew1) | exact HB.out)⟩
                                                  · rw [if_neg c46] at H
                                                    have c46b0 : (t260 == 0) = false := beq_eq_false_iff_ne.mpr c46
                                                    have c46b1 : (t260 != 0) = true := bne_iff_ne.mpr c46
                                                    obtain rfl := Option.some.inj H
                                                    exact absurd hr.out (by decide)
                                                · rw [if_neg c45] at H
                                                  have c45b0 : (t258 == 0) = false := beq_eq_false_iff_ne.mpr c45
                                                  have c45b1 : (t258 != 0) = true := bne_iff_ne.mpr c45
                                                  obtain rfl := Option.some.inj H
                                                  exact absurd hr.out (by decide)
                                              · replace c44 := Bool.eq_false_iff.mpr c44
                                                subst c44
                                                have H1 : (some false) = some r := by rw [if_neg (show ¬ (false = true) by decide)] at H; exact H
                                                clear H
                                                have H := H1
                                                clear H1
                                                obtain rfl := Option.some.inj H
                                                exact absurd hr.out (by decide)
                                            · rw [if_neg c43] at H
                                              have c43b0 : decide ((rd (rd_L1 l0 a2) (ji33)) ≤ t259) = false := decide_eq_false c43
                                              clear c43
                                              by_cases c53 : x9_26 = true
                                              · subst c53
                                                have H1 : (if t258 = 0 then (if t260 = 0 then (some (t257 == (wrap64 (t240 + 0)))) else (some false)) else (some false)) = some r := by first | (rw [if_pos rfl] at H; exact H) | (rw [if_pos trivial] at H; exact H)
                                                clear H
                                                have H := H1
                                                clear H1
                                                by_cases c54 : t258 = 0
                                                · rw [if_pos c54] at H
                                                  have c54b0 : (t258 == 0) = true := beq_iff_eq.mpr c54
                                                  have c54b1 : (t258 != 0) = false := bne_eq_false_iff_eq.mpr c54
                                                  clear c54
                                                  by_cases c55 : t260 = 0
                                                  · rw [if_pos c55] at H
                                                    have c55b0 : (t260 == 0) = true := beq_iff_eq.mpr c55
                                                    have c55b1 : (t260 != 0) = false := bne_eq_false_iff_eq.mpr c55
                                                    clear c55
                                                    obtain rfl := Option.some.inj H
                                                    simp only [Option.some.injEq, Prod.mk.injEq] at H
                                                    obtain ⟨rfl⟩ := H
                                                    have p247 : 0 ≤ (a2 : Int) := of_decide_eq_true (by first | (with_reducible assumption) | assumption)
                                                    have q247 : a2 < (l0.length : Int) := of_decide_eq_true (by first | (with_reducible assumption) | assumption)
                                                    obtain ⟨ad247, A247_0, c247_0, e247, hx247_0, hl247_0, hi247_0⟩ := at_L1 HR0.out a2 p247 q247
                                                    obtain rfl : ad239 = ad247 := (by injection e247)
                                                    replace hx247_0 := (HB.out.cell (World.block_lt_of_cell? w _ hx247_0)).trans hx247_0
                                                    have HR247_0 := Aside0.mk hi247_0
                                                    have HC247_0 := Aside0.mk hl247_0
                                                    clear hi247_0 hl247_0
                                                    replace p247 := eq_true p247
                                                    replace q247 := eq_true q247
                                                    have p248 : 0 ≤ ((ji33) : Int) := of_decide_eq_true (by first | (with_reducible assumption) | assumption)
                                                    have q248 : (ji33) < ((rd_L1 l0 a2).length : Int) := of_decide_eq_true (by first | (with_reducible assumption) | assumption)
                                                    obtain ⟨ad248, e248, hx248_0⟩ := Kd.at_int HR247_0.out (ji33) p248 q248
                                                    cases e248
                                                    replace hx248_0 := (HB.out.cell (World.block_lt_of_cell? w _ hx248_0)).trans hx248_0
                                                    replace p248 := eq_true p248
                                                    replace q248 := eq_true q248
                                                    go_wp2_with (first | ((with_reducible refine gate_callee (f := 17) rfl ?_); refine goesL_ (some 130) rfl rfl Try.func17 (by kernel_rfl) rfl #[.slice (some ad239) l0.length c0] rfl (by (try simp only [List.map_toArray, List.map_cons, List.map_nil]); first | done | rfl | (simp only [List.length_drop, List.length_take]; rfl)) ?_; (with_reducible refine (chargeparkref30_Copy.calls kj26 _ _ l0 t249 _ ?side1 ?side2 A37.out).mono ?_); (case side1 => repeat (first | exact (Kd.C_below HR0.out HB.out) | (with_reducible refine Kd.C_alloc ?_ _) | (with_reducible refine Kd.C_drewN ?_ _) | (with_reducible refine Kd.C_drew ?_))); (case side2 => exact HC0.out); rintro e w56 ⟨v250, rfl, ho0, hb⟩; refine ⟨_, rfl, ?_⟩; have n0_ := Aside0.mk (Kd.S_lower ho0 (below_size (by repeat (first | (with_reducible first | exact HB.out | apply below_alloc | apply pw_below_drewN | apply below_drew1) | exact HB.out)))); have n1_ := Aside0.mk (below_step (by repeat (first | (with_reducible first | exact HB.out | apply below_alloc | apply pw_below_drewN | apply below_drew1) | exact HB.out)) hb); clear HB; have HO251 := n0_; have HB := n1_; clear n0_ n1_; (try clear hb); (try clear hb2); (try clear hk); (try clear hi); (try clear ho0); obtain ⟨Ao57, co57, eo57⟩ := Kd.S_slice HO251.out; subst eo57; have p252 : 0 ≤ (a2 : Int) := of_decide_eq_true (by first | (with_reducible assumption) | assumption); have q252 : a2 < (t249.length : Int) := of_decide_eq_true (by first | (with_reducible assumption) | assumption); obtain ⟨ad252, A252_0, c252_0, e252, hx252_0, hl252_0, hi252_0⟩ := at_L1 (Kd.S_reads' HO251.out).2.2 a2 p252 q252; cases e252; obtain ⟨ce252, hce252, hMe252, hcc252⟩ := Kd.S_get HO251.out [] a2 p252 (by first | exact q252 | exact of_decide_eq_true (by first | (with_reducible assumption) | assumption) | (have e_ := (Kd.S_reads' HO251.out).1; omega)); obtain ⟨ve252_0, rfl, ge252_0⟩ := hMe252; have hv252_0 := hcc252 0 _ rfl; rw [Nat.add_zero, show ((Kd.slice 3 (Kd.int .i64))).sz = 1 from rfl, Nat.mul_one] at hv252_0; replace hv252_0 := Option.some.inj (hv252_0.symm.trans hx252_0); rw [hv252_0] at ge252_0; have HL252_0 := Aside0.mk (show Kd.R (Kd.int .i64) 3 _ _ _ _ (rd_L1 t249 a2) from ge252_0); clear hv252_0 ge252_0; have HX252_0 := Aside0.mk hx252_0; clear hcc252 hce252; have HR252_0 := Aside0.mk hi252_0; have HC252_0 := Aside0.mk hl252_0; clear hi252_0 hl252_0; replace p252 := eq_true p252; replace q252 := eq_true q252; have p253 : 0 ≤ ((ji33) : Int) := of_decide_eq_true (by first | (with_reducible assumption) | assumption); have q253 : (ji33) < ((rd_L1 t249 a2).length : Int) := of_decide_eq_true (by first | (with_reducible assumption) | assumption); obtain ⟨ad253, e253, hx253_0⟩ := Kd.at_int (by repeat (first | (with_reducible exact HR252_0.out) | (with_reducible refine Kd.C_alloc ?_ _) | (with_reducible refine Kd.C_drewN ?_ _) | (with_reducible refine Kd.C_drew ?_) | exact HR252_0.out)) (ji33) p253 q253; cases e253; replace p253 := eq_true p253; replace q253 := eq_true q253; have p40 : 0 ≤ ((ji33) : Int) := of_decide_eq_true (by first | (with_reducible assumption) | assumption); have q40 : ((ji33) : Int) < (((rd_L1 t249 a2).length : Int) : Int) := of_decide_eq_true (by first | (with_reducible assumption) | assumption); obtain ⟨go40, co40, eo40, gb40, gl40, cl40, HG40⟩ := Kd.R_form HL252_0.out (by omega); (first | cases eo40 | (injection eo40 with ea_ en_ ec_; (first | subst ea_ | (injection ea_ with ea_; subst ea_)); subst ec_; clear en_)); have GB40 := Aside0.mk gb40; have GG40 := Aside0.mk HG40; clear gb40 gl40 HG40; (first | simp only [add_plain] at hx253_0 | skip); obtain ⟨hx40_0, hf40_0⟩ := Kd.R_celln 0 HL252_0.out ((ji33) : Int) p40 q40; replace p40 := eq_true p40; replace q40 := eq_true q40; have hq58 : (a2 : Int) < (t249.length : Int) := (by have h_ : (a2 : Int) < ((t249.length : Int) : Int) := of_decide_eq_true (by first | (with_reducible assumption) | assumption); first | exact h_ | (have e_ := (Kd.S_reads' HO251.out).1; omega) | simpa only [List.length_set, List.length_set] using h_); obtain ⟨oki58, ce58, hcl58, hM58, hcc58, hok58, hbk58⟩ := Kd.S_borrow HO251.out [] (a2 : Int) (of_decide_eq_true (by first | (with_reducible assumption) | assumption)) hq58; obtain ⟨ve58_0, rfl, ge58_0⟩ := hM58; have hv58 := hcc58 0 _ rfl; rw [Nat.add_zero, show ((Kd.slice 3 (Kd.int .i64))).sz = 1 from rfl, Nat.mul_one] at hv58; replace hv58 := Option.some.inj (hv58.symm.trans HX252_0.out); subst hv58; clear hcc58 hcl58; replace ge58_0 := (show Kd.R (Kd.int .i64) 3 _ _ _ _ (rd_L1 t249 a2) from ge58_0); have HP58 := Kd.R_putg ge58_0 ((ji33) : Int) (wrap64 ((rd (rd_L1 t249 a2) (ji33)) - 1))) | ((with_reducible refine gate_store (t := 3) (p := 139) rfl ?_); refine store_event (t := 3) (p := 139) (v := ?vo_w59) (w1 := (w56.setCell ⟨go40, ((ji33) : Int).toNat, none⟩ (.int .i64 (wrap64 ((rd (rd_L1 t249 a2) (ji33)) - 1))))) ?hg ?ho ?hn ?hr ?_; (case ho => rfl); (case hg => rfl); (case hn => rfl); (case hr => first | (go_simp; done) | (go_simp; rfl)); intro w59 hw; have hg : w56.grownBy w59 (some go40) := (by rw [hw]; exact HP58.2); have hz_ : Kd.R (Kd.int .i64) 3 w59 w.heap.size oki58 (.slice (some ⟨go40, 0, none⟩) (rd_L1 t249 a2).length c252_0) y254 := (by rw [hw, Ny254.out]; exact HP58.1); have hp_ : Kd.S (Kd.slice 3 (Kd.int .i64)) 33 w59 w.heap.size (fun _ => True) (.slice (some ad252) t249.length co57) y256 := (by rw [Ny256.out]; exact hbk58 hg (fun k_ e_ => by injection e_ with e_; subst e_; exact ge58_0.1 _ rfl) (Kd.M_row hz_)); have hm_ := Kd.R_mono hz_ hok58; clear HP58 hbk58; have n0_ := Aside0.mk (hp_); have n1_ := Aside0.mk ((by rw [hw]; exact below_set (HB.out) GB40.out : Below w.heap.size w w59)); have n2_ := Aside0.mk (hm_); have n3_ := Aside0.mk ((Kd.R_reads' hm_).2.1); clear HO251; clear HB; clear HL252_0; have HO251 := n0_; have HB := n1_; have HL264 := n2_; have HC255 := n3_; clear n0_ n1_ n2_ n3_; clear hg hw hp_ hz_ hm_ hok58) | ((with_reducible refine gate_callee (f := 13) rfl ?_); refine goesL_ (some 144) rfl rfl Try.func13 (by kernel_rfl) rfl #[.slice (some ad252) y256.length co57, .slice A1 l1.length c1, .int .i64 a2] rfl (by (try simp only [List.map_toArray, List.map_cons, List.map_nil]); first | done | (rw [show y256.length = t249.length from (Kd.S_reads' HO251.out).1.symm] <;> rfl) | rfl | (simp only [List.length_drop, List.length_take]; rfl)) ?_; (with_reducible refine (bids_Delivered.calls _ _ y256 _ _ l1 a2 t257 t258 _ ?side1 ?side2 ?side3 ?side4 A41.out).mono ?_); (case side1 => repeat (first | exact (Kd.S_reads' HO251.out).2.2 | (with_reducible refine Kd.C_alloc ?_ _) | (with_reducible refine Kd.C_drewN ?_ _) | (with_reducible refine Kd.C_drew ?_))); (case side2 => rw [show y256.length = t249.length from (Kd.S_reads' HO251.out).1.symm]; exact (Kd.S_reads' HO251.out).2.1); (case side3 => repeat (first | exact (Kd.C_below HR1.out HB.out) | (with_reducible refine Kd.C_alloc ?_ _) | (with_reducible refine Kd.C_drewN ?_ _) | (with_reducible refine Kd.C_drew ?_))); (case side4 => exact HC1.out); rintro e w60 ⟨rfl, hb⟩; refine ⟨_, rfl, ?_⟩; have n0_ := Aside0.mk (Kd.S_below (by (with_reducible repeat (first | apply Kd.S_alloc | apply Kd.S_drewN | apply Kd.S_drew)); exact HO251.out) hb); have n1_ := Aside0.mk (Kd.R_below (by (with_reducible repeat (first | apply Kd.R_alloc | apply Kd.R_drewN | apply Kd.R_drew)); exact HL264.out) hb); have n2_ := Aside0.mk (below_step (by repeat (first | (with_reducible first | exact HB.out | apply below_alloc | apply pw_below_drewN | apply below_drew1) | exact HB.out)) hb); clear HO251; clear HL264; clear HB; have HO251 := n0_; have HL264 := n1_; have HB := n2_; clear n0_ n1_ n2_; (try clear hb); (try clear hb2); (try clear hk); (try clear hi)) | ((with_reducible refine gate_callee (f := 11) rfl ?_); refine goesL_ (some 152) rfl rfl Try.func11 (by kernel_rfl) rfl #[.slice (some ad239) l0.length c0, .slice A1 l1.length c1, .int .i64 a2, .int .i64 (ji33)] rfl (by (try simp only [List.map_toArray, List.map_cons, List.map_nil]); first | done | (simp only [hji33]; rfl) | rfl | (simp only [List.length_drop, List.length_take]; rfl)) ?_; (with_reducible refine (bids_Baseline.calls kj26 _ _ l0 _ _ l1 a2 (ji33) t259 t260 _ ?side1 ?side2 ?side3 ?side4 A42.out).mono ?_); (case side1 => repeat (first | exact (Kd.C_below HR0.out HB.out) | (with_reducible refine Kd.C_alloc ?_ _) | (with_reducible refine Kd.C_drewN ?_ _) | (with_reducible refine Kd.C_drew ?_))); (case side2 => exact HC0.out); (case side3 => repeat (first | exact (Kd.C_below HR1.out HB.out) | (with_reducible refine Kd.C_alloc ?_ _) | (with_reducible refine Kd.C_drewN ?_ _) | (with_reducible refine Kd.C_drew ?_))); (case side4 => exact HC1.out); rintro e w61 ⟨rfl, hb⟩; refine ⟨_, rfl, ?_⟩; have n0_ := Aside0.mk (Kd.S_below (by (with_reducible repeat (first | apply Kd.S_alloc | apply Kd.S_drewN | apply Kd.S_drew)); exact HO251.out) hb); have n1_ := Aside0.mk (Kd.R_below (by (with_reducible repeat (first | apply Kd.R_alloc | apply Kd.R_drewN | apply Kd.R_drew)); exact HL264.out) hb); have n2_ := Aside0.mk (below_step (by repeat (first | (with_reducible first | exact HB.out | apply below_alloc | apply pw_below_drewN | apply below_drew1) | exact HB.out)) hb); clear HO251; clear HL264; clear HB; have HO251 := n0_; have HL264 := n1_; have HB := n2_; clear n0_ n1_ n2_; (try clear hb); (try clear hb2); (try clear hk); (try clear hi); have p261 : 0 ≤ (a2 : Int) := of_decide_eq_true (by first | (with_reducible assumption) | assumption); have q261 : a2 < (l0.length : Int) := of_decide_eq_true (by first | (with_reducible assumption) | assumption); obtain ⟨ad261, A261_0, c261_0, e261, hx261_0, hl261_0, hi261_0⟩ := at_L1 HR0.out a2 p261 q261; obtain rfl : ad239 = ad261 := (by injection e261); replace hx261_0 := (HB.out.cell (World.block_lt_of_cell? w _ hx261_0)).trans hx261_0; have HR261_0 := Aside0.mk hi261_0; have HC261_0 := Aside0.mk hl261_0; clear hi261_0 hl261_0; replace p261 := eq_true p261; replace q261 := eq_true q261; have p262 : 0 ≤ ((ji33) : Int) := of_decide_eq_true (by first | (with_reducible assumption) | assumption); have q262 : (ji33) < ((rd_L1 l0 a2).length : Int) := of_decide_eq_true (by first | (with_reducible assumption) | assumption); obtain ⟨ad262, e262, hx262_0⟩ := Kd.at_int HR261_0.out (ji33) p262 q262; cases e262; replace hx262_0 := (HB.out.cell (World.block_lt_of_cell? w _ hx262_0)).trans hx262_0; replace p262 := eq_true p262; replace q262 := eq_true q262))
                                                    go_ret
                                                    exact ⟨by first | rfl | (simp [errW_none, errW_some] <;> rfl) | (simp only [← hji33]; first | rfl | (simp [errW_none, errW_some] <;> rfl)) | (simp [*, errW_none, errW_some] <;> rfl), by repeat (first | (with_reducible first | exact HB.out | apply below_alloc | apply pw_below_drewN | apply below_drew1) | exact HB.out)⟩
                                                  · rw [if_neg c55] at H
                                                    have c55b0 : (t260 == 0) = false := beq_eq_false_iff_ne.mpr c55
                                                    have c55b1 : (t260 != 0) = true := bne_iff_ne.mpr c55
                                                    obtain rfl := Option.some.inj H
                                                    exact absurd hr.out (by decide)
                                                · rw [if_neg c54] at H
                                                  have c54b0 : (t258 == 0) = false := beq_eq_false_iff_ne.mpr c54
                                                  have c54b1 : (t258 != 0) = true := bne_iff_ne.mpr c54
                                                  obtain rfl := Option.some.inj H
                                                  exact absurd hr.out (by decide)
                                              · replace c53 := Bool.eq_false_iff.mpr c53
                                                subst c53
                                                have H1 : (some false) = some r := by rw [if_neg (show ¬ (false = true) by decide)] at H; exact H
                                                clear H
                                                have H := H1
                                                clear H1
                                                obtain rfl := Option.some.inj H
                                                exact absurd hr.out (by decide)
                                          · rw [if_neg c39] at H
                                            exact absurd H (by simp)
                                        · rw [if_neg c38] at H
                                          exact absurd H (by simp)
                                    · rw [if_neg c35] at H
                                      exact absurd H (by simp)
                                  · rw [if_neg c34] at H
                                    exact absurd H (by simp)
                                · rw [if_neg c32] at H
                                  exact absurd H (by simp)
                              · rw [if_neg c31] at H
                                exact absurd H (by simp)
                      · rw [if_neg c20] at H
                        exact absurd H (by simp)
                    · rw [if_neg c19] at H
                      exact absurd H (by simp)
              · rw [if_neg c17] at H
                have c17b0 : (t241 == 0) = false := beq_eq_false_iff_ne.mpr c17
                have c17b1 : (t241 != 0) = true := bne_iff_ne.mpr c17
                by_cases c62 : (true = true)
                · clear c62
                  have H1 : (if t241 = 4 then (some (t240 == 0)) else (some false)) = some r := by first | (rw [if_pos rfl] at H; exact H) | (rw [if_pos trivial] at H; exact H)
                  clear H
                  have H := H1
                  clear H1
                  by_cases c63 : t241 = 4
                  · rw [if_pos c63] at H
                    have c63b0 : (t241 == 4) = true := beq_iff_eq.mpr c63
                    have c63b1 : (t241 != 4) = false := bne_eq_false_iff_eq.mpr c63
                    clear c63
                    obtain rfl := Option.some.inj H
                    simp only [Option.some.injEq, Prod.mk.injEq] at H
                    obtain ⟨rfl⟩ := H
                    have p239 : 0 ≤ (a2 : Int) := of_decide_eq_true (by first | (with_reducible assumption) | assumption)
                    have q239 : a2 < (l0.length : Int) := of_decide_eq_true (by first | (with_reducible assumption) | assumption)
                    obtain ⟨ad239, A239_0, c239_0, e239, hx239_0, hl239_0, hi239_0⟩ := at_L1 HR0.out a2 p239 q239
                    cases e239
                    replace hx239_0 := (HB.out.cell (World.block_lt_of_cell? w _ hx239_0)).trans hx239_0
                    have HR239_0 := Aside0.mk hi239_0
                    have HC239_0 := Aside0.mk hl239_0
                    clear hi239_0 hl239_0
                    replace p239 := eq_true p239
                    replace q239 := eq_true q239
                    go_wp2_with (first | ((with_reducible refine gate_callee (f := 13) rfl ?_); refine goesL_ (some 57) rfl rfl Try.func13 (by kernel_rfl) rfl #[.slice (some ad239) l0.length c0, .slice A1 l1.length c1, .int .i64 a2] rfl (by (try simp only [List.map_toArray, List.map_cons, List.map_nil]); first | done | rfl | (simp only [List.length_drop, List.length_take]; rfl)) ?_; (with_reducible refine (bids_Delivered.calls _ _ l0 _ _ l1 a2 t240 t241 _ ?side1 ?side2 ?side3 ?side4 A16.out).mono ?_); (case side1 => repeat (first | exact (Kd.C_below HR0.out HB.out) | (with_reducible refine Kd.C_alloc ?_ _) | (with_reducible refine Kd.C_drewN ?_ _) | (with_reducible refine Kd.C_drew ?_))); (case side2 => exact HC0.out); (case side3 => repeat (first | exact (Kd.C_below HR1.out HB.out) | (with_reducible refine Kd.C_alloc ?_ _) | (with_reducible refine Kd.C_drewN ?_ _) | (with_reducible refine Kd.C_drew ?_))); (case side4 => exact HC1.out); rintro e w64 ⟨rfl, hb⟩; refine ⟨_, rfl, ?_⟩; have n0_ := Aside0.mk (below_step (by repeat (first | (with_reducible first | exact HB.out | apply below_alloc | apply pw_below_drewN | apply below_drew1) | exact HB.out)) hb); clear HB; have HB := n0_; clear n0_; (try clear hb); (try clear hb2); (try clear hk); (try clear hi)))
                    go_ret
                    exact ⟨by first | rfl | (simp [errW_none, errW_some] <;> rfl) | (simp [*, errW_none, errW_some] <;> rfl), by repeat (first | (with_reducible first | exact HB.out | apply below_alloc | apply pw_below_drewN | apply below_drew1) | exact HB.out)⟩
                  · rw [if_neg c63] at H
                    have c63b0 : (t241 == 4) = false := beq_eq_false_iff_ne.mpr c63
                    have c63b1 : (t241 != 4) = true := bne_iff_ne.mpr c63
                    obtain rfl := Option.some.inj H
                    exact absurd hr.out (by decide)
                · exact absurd rfl c62
          · rw [if_neg c14] at H
            exact absurd H (by simp)
        · rw [if_neg c13] at H
          exact absurd H (by simp)

end Go.Proofs.Ytakmioomcnnfjaa.PAll
