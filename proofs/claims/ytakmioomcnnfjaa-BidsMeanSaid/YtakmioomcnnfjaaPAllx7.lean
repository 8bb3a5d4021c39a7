/- What the Go functions of this seat's laws return, told as Lean functions and proved by their walks; laid by a program of this session out of Lean's own print of the translation. No conditions of its own. -/
import Derived.Test.YtakmioomcnnfjaaPAllx0
import Derived.Test.YtakmioomcnnfjaaPAllx1
import Derived.Test.YtakmioomcnnfjaaPAllx2
import Derived.Test.YtakmioomcnnfjaaPAllx4
import Derived.Test.YtakmioomcnnfjaaPAllx5
namespace Go.Proofs.Ytakmioomcnnfjaa.PAll
open Go.RowKit Go.Proofs.YtakmioomcnnfjaaW.PrintWords Go.Proofs.YtakmioomcnnfjaaW.PrintLast Go.Proofs.YtakmioomcnnfjaaW.PrintMore
attribute [local go_sem] max2_int min2_int max_two min_two max_three min_three max_four min_four   -- for this text's walks alone
set_option linter.unusedVariables false
set_option linter.unusedSimpArgs false

/-! ### chargeparklaw30_BidsMean: function 5 -/
mutual
def chargeparklaw30_BidsMean.j0 : Nat → List (List Int) → List Bool → Int → Int → Bool → Bool → Option (Bool)
  | 0, _, _, _, _, _, _ => none
  | k + 1, x0, x1, x2, x3, x9, x45 => if x45 = true then (some x9) else ((bids_Baseline.f k x0 x1 x2 x3).bind fun bt229 => (chargeparklaw30_BidsMean.l0 k x0 x1 x2 x3 x9 bt229.1 bt229.2 0 0 1000 0 0))
def chargeparklaw30_BidsMean.l0 : Nat → List (List Int) → List Bool → Int → Int → Bool → Int → Int → Int → Int → Int → Int → Int → Option (Bool)
  | 0, _, _, _, _, _, _, _, _, _, _, _, _ => none
  | k + 1, x0, x1, x2, x3, x9, x11, x12, x13, x14, x15, x16, x17 => if x17 < x2 then ((chargeparklaw30_counts.f k x1 x17 x2).bind fun t231 => (if t231 = true then (if 0 ≤ x17 then (if x17 < (x0.length : Int) then (if 0 ≤ x3 then (if x3 < ((rd_L1 x0 x17).length : Int) then (chargeparklaw30_BidsMean.l0 k x0 x1 x2 x3 x9 x11 x12 (wrap64 (x13 + 1)) (wrap64 (x14 + (rd (rd_L1 x0 x17) x3))) (mn x15 (rd (rd_L1 x0 x17) x3)) (mx x16 (rd (rd_L1 x0 x17) x3)) (wrap64 (x17 + 1))) else (none)) else (none)) else (none)) else (none)) else (chargeparklaw30_BidsMean.l0 k x0 x1 x2 x3 x9 x11 x12 x13 x14 x15 x16 (wrap64 (x17 + 1))))) else (if x13 < 5 then (if x9 = true then (if x12 = 4 then (some (x11 == 0)) else (some false)) else (some false)) else (if x9 = true then (if x12 = 0 then (if x11 ≥ x15 then (if x11 ≤ x16 then (if (wrap64 (5 * x11)) ≤ x14 then (some (decide ((wrap64 (5 * x11)) > (wrap64 (x14 - 5))))) else (some false)) else (some false)) else (some false)) else (some false)) else (some false)))
end
def chargeparklaw30_BidsMean.f (k : Nat) (l0 : List (List Int)) (l1 : List Bool) (a2 : Int) (a3 : Int) : Option (Bool) := (chargeparklaw30_head_c.f).bind fun _ => ((chargeparklaw30_usable.f k l0 l1).bind fun t227 => (if t227 = true then (if a2 < 0 then (chargeparklaw30_BidsMean.j0 k l0 l1 a2 a3 true true) else (if a2 > (l0.length : Int) then (chargeparklaw30_BidsMean.j0 k l0 l1 a2 a3 true true) else (if a3 < 0 then (chargeparklaw30_BidsMean.j0 k l0 l1 a2 a3 true true) else (if 0 < (l0.length : Int) then (chargeparklaw30_BidsMean.j0 k l0 l1 a2 a3 true (decide (a3 ≥ ((rd_L1 l0 0).length : Int)))) else (none))))) else (chargeparklaw30_BidsMean.j0 k l0 l1 a2 a3 true true)))
theorem chargeparklaw30_BidsMean.mono_l : ∀ k, (∀ y0 y1 y2 y3 y4 y5, LeO (chargeparklaw30_BidsMean.j0 k y0 y1 y2 y3 y4 y5) (chargeparklaw30_BidsMean.j0 (k + 1) y0 y1 y2 y3 y4 y5)) ∧ (∀ y0 y1 y2 y3 y4 y5 y6 y7 y8 y9 y10 y11, LeO (chargeparklaw30_BidsMean.l0 k y0 y1 y2 y3 y4 y5 y6 y7 y8 y9 y10 y11) (chargeparklaw30_BidsMean.l0 (k + 1) y0 y1 y2 y3 y4 y5 y6 y7 y8 y9 y10 y11))
  | 0 => ⟨fun _ _ _ _ _ _ r h => by simp [chargeparklaw30_BidsMean.j0] at h, fun _ _ _ _ _ _ _ _ _ _ _ _ r h => by simp [chargeparklaw30_BidsMean.l0] at h⟩
  | k + 1 => by
    obtain ⟨ih0, ih1⟩ := chargeparklaw30_BidsMean.mono_l k
    refine ⟨?_, ?_⟩
    · intro y0 y1 y2 y3 y4 y5
      unfold chargeparklaw30_BidsMean.j0
      repeat' first
      | (with_reducible exact ih0 _ _ _ _ _ _)
      | (with_reducible exact ih1 _ _ _ _ _ _ _ _ _ _ _ _)
      | (with_reducible exact bids_Baseline.mono _ _ _ _ _)
      | (with_reducible exact chargeparklaw30_counts.mono _ _ _ _)
      | (with_reducible exact chargeparklaw30_usable.mono _ _ _)
      | (with_reducible exact LeO.refl _)
      | (with_reducible exact LeO.none _)
      | (with_reducible refine LeO.ite ?_ ?_)
      | (with_reducible refine LeO.bind ?_ (fun _ => ?_))
      | exact ih0 _ _ _ _ _ _
      | exact ih1 _ _ _ _ _ _ _ _ _ _ _ _
      | exact bids_Baseline.mono _ _ _ _ _
      | exact chargeparklaw30_counts.mono _ _ _ _
      | exact chargeparklaw30_usable.mono _ _ _
      | exact LeO.none _
      | refine LeO.ite ?_ ?_
      | refine LeO.bind ?_ (fun _ => ?_)
    · intro y0 y1 y2 y3 y4 y5 y6 y7 y8 y9 y10 y11
      unfold chargeparklaw30_BidsMean.l0
      repeat' first
      | (with_reducible exact ih0 _ _ _ _ _ _)
      | (with_reducible exact ih1 _ _ _ _ _ _ _ _ _ _ _ _)
      | (with_reducible exact bids_Baseline.mono _ _ _ _ _)
      | (with_reducible exact chargeparklaw30_counts.mono _ _ _ _)
      | (with_reducible exact chargeparklaw30_usable.mono _ _ _)
      | (with_reducible exact LeO.refl _)
      | (with_reducible exact LeO.none _)
      | (with_reducible refine LeO.ite ?_ ?_)
      | (with_reducible refine LeO.bind ?_ (fun _ => ?_))
      | exact ih0 _ _ _ _ _ _
      | exact ih1 _ _ _ _ _ _ _ _ _ _ _ _
      | exact bids_Baseline.mono _ _ _ _ _
      | exact chargeparklaw30_counts.mono _ _ _ _
      | exact chargeparklaw30_usable.mono _ _ _
      | exact LeO.none _
      | refine LeO.ite ?_ ?_
      | refine LeO.bind ?_ (fun _ => ?_)
theorem chargeparklaw30_BidsMean.mono : ∀ a0 a1 a2 a3 k, LeO (chargeparklaw30_BidsMean.f k a0 a1 a2 a3) (chargeparklaw30_BidsMean.f (k + 1) a0 a1 a2 a3) := by
  intro a0 a1 a2 a3 k
  obtain ⟨ih0, ih1⟩ := chargeparklaw30_BidsMean.mono_l k
  unfold chargeparklaw30_BidsMean.f
  repeat' first
      | (with_reducible exact ih0 _ _ _ _ _ _)
      | (with_reducible exact ih1 _ _ _ _ _ _ _ _ _ _ _ _)
      | (with_reducible exact bids_Baseline.mono _ _ _ _ _)
      | (with_reducible exact chargeparklaw30_counts.mono _ _ _ _)
      | (with_reducible exact chargeparklaw30_usable.mono _ _ _)
      | (with_reducible exact LeO.refl _)
      | (with_reducible exact LeO.none _)
      | (with_reducible refine LeO.ite ?_ ?_)
      | (with_reducible refine LeO.bind ?_ (fun _ => ?_))
      | exact ih0 _ _ _ _ _ _
      | exact ih1 _ _ _ _ _ _ _ _ _ _ _ _
      | exact bids_Baseline.mono _ _ _ _ _
      | exact chargeparklaw30_counts.mono _ _ _ _
      | exact chargeparklaw30_usable.mono _ _ _
      | exact LeO.none _
      | refine LeO.ite ?_ ?_
      | refine LeO.bind ?_ (fun _ => ?_)
set_option maxHeartbeats 8000000 in
set_option maxRecDepth 100000 in
theorem chargeparklaw30_BidsMean.calls (k : Nat) (A0 : Option Addr) (c0 : Nat) (l0 : List (List Int)) (A1 : Option Addr) (c1 : Nat) (l1 : List Bool) (a2 : Int) (a3 : Int) (r : Bool) (w : World) (hr0 : Kd.C (Kd.slice 3 (Kd.int .i64)) w A0 l0.length l0) (hc0 : l0.length ≤ c0) (hr1 : Kd.C Kd.bool w A1 l1.length l1) (hc1 : l1.length ≤ c1) (h : chargeparklaw30_BidsMean.f k l0 l1 a2 a3 = some r) (hr : Aside0 (r = true)) :
    Calls Try.prog 5 #[.slice A0 l0.length c0, .slice A1 l1.length c1, .int .i64 a2, .int .i64 a3] w fun e w' => e = .returned (.bool r) ∧ Below w.heap.size w w' := by
  have HR0 := Aside0.mk hr0
  have HC0 := Aside0.mk hc0
  clear hr0 hc0
  have HR1 := Aside0.mk hr1
  have HC1 := Aside0.mk hc1
  clear hr1 hc1
  have HB := Aside0.mk (Below.refl w.heap.size w)
  have H : ((chargeparklaw30_head_c.f).bind fun _ => ((chargeparklaw30_usable.f k l0 l1).bind fun t227 => (if t227 = true then (if a2 < 0 then (chargeparklaw30_BidsMean.j0 k l0 l1 a2 a3 true true) else (if a2 > (l0.length : Int) then (chargeparklaw30_BidsMean.j0 k l0 l1 a2 a3 true true) else (if a3 < 0 then (chargeparklaw30_BidsMean.j0 k l0 l1 a2 a3 true true) else (if 0 < (l0.length : Int) then (chargeparklaw30_BidsMean.j0 k l0 l1 a2 a3 true (decide (a3 ≥ ((rd_L1 l0 0).length : Int)))) else (none))))) else (chargeparklaw30_BidsMean.j0 k l0 l1 a2 a3 true true)))) = some r := h
  clear h
  replace H := Option.bind_eq_some_iff.mp H
  obtain ⟨tc_, A50, H⟩ := H
  obtain rfl : true = tc_ := Option.some.inj ((show chargeparklaw30_head_c.f = some true by kernel_rfl).symm.trans A50)
  replace H : ((chargeparklaw30_usable.f k l0 l1).bind fun t227 => (if t227 = true then (if a2 < 0 then (chargeparklaw30_BidsMean.j0 k l0 l1 a2 a3 true true) else (if a2 > (l0.length : Int) then (chargeparklaw30_BidsMean.j0 k l0 l1 a2 a3 true true) else (if a3 < 0 then (chargeparklaw30_BidsMean.j0 k l0 l1 a2 a3 true true) else (if 0 < (l0.length : Int) then (chargeparklaw30_BidsMean.j0 k l0 l1 a2 a3 true (decide (a3 ≥ ((rd_L1 l0 0).length : Int)))) else (none))))) else (chargeparklaw30_BidsMean.j0 k l0 l1 a2 a3 true true))) = some r := H
  have A5 := Aside0.mk A50
  clear A50
  replace H := Option.bind_eq_some_iff.mp H
  obtain ⟨t227, A60, H⟩ := H
  replace H : (if t227 = true then (if a2 < 0 then (chargeparklaw30_BidsMean.j0 k l0 l1 a2 a3 true true) else (if a2 > (l0.length : Int) then (chargeparklaw30_BidsMean.j0 k l0 l1 a2 a3 true true) else (if a3 < 0 then (chargeparklaw30_BidsMean.j0 k l0 l1 a2 a3 true true) else (if 0 < (l0.length : Int) then (chargeparklaw30_BidsMean.j0 k l0 l1 a2 a3 true (decide (a3 ≥ ((rd_L1 l0 0).length : Int)))) else (none))))) else (chargeparklaw30_BidsMean.j0 k l0 l1 a2 a3 true true)) = some r := H
  have A6 := Aside0.mk A60
  clear A60
  have HC7 := Aside0.mk H
  clear H
  go_enter Try.func5, Try.ntmps5
  go_upto_region 3 with (first | ((with_reducible refine gate_callee (f := 9) rfl ?_); refine goesL_ (some 18) rfl rfl Try.func9 (by kernel_rfl) rfl #[] rfl (by (try simp only [List.map_toArray, List.map_cons, List.map_nil]); first | done | rfl | (simp only [List.length_drop, List.length_take]; rfl)) ?_; (with_reducible refine (chargeparklaw30_head_c.calls  true _ A5.out).mono ?_); rintro e w8 ⟨rfl, hb⟩; refine ⟨_, rfl, ?_⟩; have n0_ := Aside0.mk (below_step (by repeat (first | (with_reducible first | exact HB.out | apply below_alloc | apply pw_below_drewN | apply below_drew1) | exact HB.out)) hb); clear HB; have HB := n0_; clear n0_; (try clear hb); (try clear hb2); (try clear hk); (try clear hi)) | ((with_reducible refine gate_callee (f := 15) rfl ?_); refine goesL_ (some 21) rfl rfl Try.func15 (by kernel_rfl) rfl #[.slice A0 l0.length c0, .slice A1 l1.length c1] rfl (by (try simp only [List.map_toArray, List.map_cons, List.map_nil]); first | done | rfl | (simp only [List.length_drop, List.length_take]; rfl)) ?_; (with_reducible refine (chargeparklaw30_usable.calls k _ _ l0 _ _ l1 t227 _ ?side1 ?side2 ?side3 ?side4 A6.out).mono ?_); (case side1 => repeat (first | exact (Kd.C_below HR0.out HB.out) | (with_reducible refine Kd.C_alloc ?_ _) | (with_reducible refine Kd.C_drewN ?_ _) | (with_reducible refine Kd.C_drew ?_))); (case side2 => exact HC0.out); (case side3 => repeat (first | exact (Kd.C_below HR1.out HB.out) | (with_reducible refine Kd.C_alloc ?_ _) | (with_reducible refine Kd.C_drewN ?_ _) | (with_reducible refine Kd.C_drew ?_))); (case side4 => exact HC1.out); rintro e w' ⟨rfl, ⟨nd, rfl⟩⟩; refine ⟨_, rfl, ?_⟩))
  (try simp only [Act.put, List.setIfInBounds_toArray, List.set_cons_zero, List.set_cons_succ])
  go_cut [45] (fun v45 wc => ∃ (kq : Nat) (x45_6 : Bool), v45 = .bool x45_6 ∧ Aside0 (chargeparklaw30_BidsMean.j0 kq l0 l1 a2 a3 true x45_6 = some r) ∧ Aside0 (kq ≤ k) ∧ Aside0 (Below w.heap.size w wc))
  case first =>
    have H := HC7.out
    clear HC7
    by_cases c9 : t227 = true
    · subst c9
      have H1 : (if a2 < 0 then (chargeparklaw30_BidsMean.j0 k l0 l1 a2 a3 true true) else (if a2 > (l0.length : Int) then (chargeparklaw30_BidsMean.j0 k l0 l1 a2 a3 true true) else (if a3 < 0 then (chargeparklaw30_BidsMean.j0 k l0 l1 a2 a3 true true) else (if 0 < (l0.length : Int) then (chargeparklaw30_BidsMean.j0 k l0 l1 a2 a3 true (decide (a3 ≥ ((rd_L1 l0 0).length : Int)))) else (none))))) = some r := by first | (rw [if_pos rfl] at H; exact H) | (rw [if_pos trivial] at H; exact H)
      clear H
      have H := H1
      clear H1
      by_cases c10 : a2 < 0
      · rw [if_pos c10] at H
        have c10b0 : decide (a2 < 0) = true := decide_eq_true c10
        clear c10
        (first | rw [c10b0] | (simp only [i64_w, i32_w]; rw [c10b0]) | skip)
        have H' := Aside0.mk H
        clear H
        go_wp2
        go_meet
        case rel => exact ⟨_, (true), (by first | rfl | (simp; done) | (simp [*]; done)), H', ⟨by first | omega | exact Nat.le_refl _⟩, ⟨by repeat (first | (with_reducible first | exact HB.out | apply below_alloc | apply pw_below_drewN | apply below_drew1) | exact HB.out)⟩⟩
      · rw [if_neg c10] at H
        have c10b0 : decide (a2 < 0) = false := decide_eq_false c10
        clear c10
        (first | rw [c10b0] | (simp only [i64_w, i32_w]; rw [c10b0]) | skip)
        by_cases c11 : a2 > (l0.length : Int)
        · rw [if_pos c11] at H
          have c11b0 : decide ((l0.length : Int) < a2) = true := decide_eq_true c11
          clear c11
          have H' := Aside0.mk H
          clear H
          go_wp2
          go_meet
          case rel => exact ⟨_, (true), (by first | rfl | (simp; done) | (simp [*]; done)), H', ⟨by first | omega | exact Nat.le_refl _⟩, ⟨by repeat (first | (with_reducible first | exact HB.out | apply below_alloc | apply pw_below_drewN | apply below_drew1) | exact HB.out)⟩⟩
        · rw [if_neg c11] at H
          have c11b0 : decide ((l0.length : Int) < a2) = false := decide_eq_false c11
          clear c11
          by_cases c12 : a3 < 0
          · rw [if_pos c12] at H
            have c12b0 : decide (a3 < 0) = true := decide_eq_true c12
            clear c12
            have H' := Aside0.mk H
            clear H
            go_wp2
            go_meet
            case rel => exact ⟨_, (true), (by first | rfl | (simp; done) | (simp [*]; done)), H', ⟨by first | omega | exact Nat.le_refl _⟩, ⟨by repeat (first | (with_reducible first | exact HB.out | apply below_alloc | apply pw_below_drewN | apply below_drew1) | exact HB.out)⟩⟩
          · rw [if_neg c12] at H
            have c12b0 : decide (a3 < 0) = false := decide_eq_false c12
            clear c12
            by_cases c13 : 0 < (l0.length : Int)
            · rw [if_pos c13] at H
              have c13b0 : decide (0 < (l0.length : Int)) = true := decide_eq_true c13
              have c13b1 : decide (0 < l0.length) = true := decide_eq_true (by omega)
              clear c13
              have H' := Aside0.mk H
              clear H
              have p228 : 0 ≤ (0 : Int) := (by omega)
              have q228 : 0 < (l0.length : Int) := of_decide_eq_true (by first | (with_reducible assumption) | assumption)
              obtain ⟨ad228, A228_0, c228_0, e228, hx228_0, hl228_0, hi228_0⟩ := at_L1 HR0.out 0 p228 q228
              cases e228
              have qi228 : (0 < l0.length) = True := eq_true (by omega)
              (try rw [show ((0 : Int)).toNat = 0 from rfl] at hx228_0)
              (try rw [Addr.add_zero'] at hx228_0)
              replace hx228_0 := (HB.out.cell (World.block_lt_of_cell? w _ hx228_0)).trans hx228_0
              have HR228_0 := Aside0.mk hi228_0
              have HC228_0 := Aside0.mk hl228_0
              clear hi228_0 hl228_0
              replace p228 := eq_true p228
              replace q228 := eq_true q228
              go_wp2
              go_meet
              case rel => exact ⟨_, (decide (a3 ≥ ((rd_L1 l0 0).length : Int))), (by first | rfl | (simp; done) | (simp [*]; done)), H', ⟨by first | omega | exact Nat.le_refl _⟩, ⟨by repeat (first | (with_reducible first | exact HB.out | apply below_alloc | apply pw_below_drewN | apply below_drew1) | exact HB.out)⟩⟩
            · rw [if_neg c13] at H
              exact absurd H (by simp)
    · replace c9 := Bool.eq_false_iff.mpr c9
      subst c9
      have H1 : (chargeparklaw30_BidsMean.j0 k l0 l1 a2 a3 true true) = some r := by rw [if_neg (show ¬ (false = true) by decide)] at H; exact H
      clear H
      have H := H1
      clear H1
      have H' := Aside0.mk H
      clear H
      go_wp2
      go_meet
      case rel => exact ⟨_, (true), (by first | rfl | (simp; done) | (simp [*]; done)), H', ⟨by first | omega | exact Nat.le_refl _⟩, ⟨by repeat (first | (with_reducible first | exact HB.out | apply below_alloc | apply pw_below_drewN | apply below_drew1) | exact HB.out)⟩⟩
  case rest =>
    clear HC7
    try clear c1
    try clear c2
    try clear p2
    try clear q2
    try clear hx2
    try clear qi2
    try clear c5
    try clear c9
    try clear c10
    try clear c10b0
    try clear c11
    try clear c11b0
    try clear c12
    try clear c12b0
    try clear c13
    try clear c13b0
    try clear c13b1
    try clear hx228_0
    try clear p228
    try clear q228
    obtain ⟨kq, x45_6, rfl, HA, HJ6, HB⟩ := hcut
    cases kq with
    | zero => exact absurd HA.out (by simp [chargeparklaw30_BidsMean.j0])
    | succ kj6 =>
      have H := HA.out
      clear HA
      simp only [chargeparklaw30_BidsMean.j0] at H
      by_cases c14 : x45_6 = true
      · subst c14
        have H1 : (some true) = some r := by first | (rw [if_pos rfl] at H; exact H) | (rw [if_pos trivial] at H; exact H)
        clear H
        have H := H1
        clear H1
        obtain rfl := Option.some.inj H
        simp only [Option.some.injEq, Prod.mk.injEq] at H
        obtain ⟨rfl⟩ := H
        go_wp2
        go_ret
        exact ⟨by first | rfl | (simp [errW_none, errW_some] <;> rfl) | (simp [*, errW_none, errW_some] <;> rfl), by repeat (first | (with_reducible first | exact HB.out | apply below_alloc | apply pw_below_drewN | apply below_drew1) | exact HB.out)⟩
      · replace c14 := Bool.eq_false_iff.mpr c14
        subst c14
        have H1 : ((bids_Baseline.f kj6 l0 l1 a2 a3).bind fun bt229 => (chargeparklaw30_BidsMean.l0 kj6 l0 l1 a2 a3 true bt229.1 bt229.2 0 0 1000 0 0)) = some r := by rw [if_neg (show ¬ (false = true) by decide)] at H; exact H
        clear H
        have H := H1
        clear H1
        replace H := Option.bind_eq_some_iff.mp H
        obtain ⟨⟨t229, t230⟩, A150, H⟩ := H
        replace H : (chargeparklaw30_BidsMean.l0 kj6 l0 l1 a2 a3 true t229 t230 0 0 1000 0 0) = some r := H
        have A15 := Aside0.mk A150
        clear A150
        have H' := Aside0.mk H
        clear H
        go_wp2_with (first | ((with_reducible refine gate_callee (f := 11) rfl ?_); refine goesL_ (some 52) rfl rfl Try.func11 (by kernel_rfl) rfl #[.slice A0 l0.length c0, .slice A1 l1.length c1, .int .i64 a2, .int .i64 a3] rfl (by (try simp only [List.map_toArray, List.map_cons, List.map_nil]); first | done | rfl | (simp only [List.length_drop, List.length_take]; rfl)) ?_; (with_reducible refine (bids_Baseline.calls kj6 _ _ l0 _ _ l1 a2 a3 t229 t230 _ ?side1 ?side2 ?side3 ?side4 A15.out).mono ?_); (case side1 => repeat (first | exact (Kd.C_below HR0.out HB.out) | (with_reducible refine Kd.C_alloc ?_ _) | (with_reducible refine Kd.C_drewN ?_ _) | (with_reducible refine Kd.C_drew ?_))); (case side2 => exact HC0.out); (case side3 => repeat (first | exact (Kd.C_below HR1.out HB.out) | (with_reducible refine Kd.C_alloc ?_ _) | (with_reducible refine Kd.C_drewN ?_ _) | (with_reducible refine Kd.C_drew ?_))); (case side4 => exact HC1.out); rintro e w16 ⟨rfl, hb⟩; refine ⟨_, rfl, ?_⟩; have n0_ := Aside0.mk (below_step (by repeat (first | (with_reducible first | exact HB.out | apply below_alloc | apply pw_below_drewN | apply below_drew1) | exact HB.out)) hb); clear HB; have HB := n0_; clear n0_; (try clear hb); (try clear hb2); (try clear hk); (try clear hi)))
        go_loopg [13, 14, 15, 16, 17] kj6 (fun kq v13 v14 v15 v16 v17 w' => ∃ (x13_2 : Int) (x14_2 : Int) (x15_2 : Int) (x16_2 : Int) (x17_2 : Int), v13 = .int .i64 x13_2 ∧ v14 = .int .i64 x14_2 ∧ v15 = .int .i64 x15_2 ∧ v16 = .int .i64 x16_2 ∧ v17 = .int .i64 x17_2 ∧ Aside0 (chargeparklaw30_BidsMean.l0 kq l0 l1 a2 a3 true t229 t230 x13_2 x14_2 x15_2 x16_2 x17_2 = some r) ∧ Aside0 (kq ≤ kj6) ∧ Aside0 (Below w.heap.size w w'))
        case atStart => exact ⟨(0), (0), (1000), (0), (0), (by first | rfl | (simp; done) | (simp [*]; done)), (by first | rfl | (simp; done) | (simp [*]; done)), (by first | rfl | (simp; done) | (simp [*]; done)), (by first | rfl | (simp; done) | (simp [*]; done)), (by first | rfl | (simp; done) | (simp [*]; done)), H', ⟨Nat.le_refl _⟩, ⟨by repeat (first | (with_reducible first | exact HB.out | apply below_alloc | apply pw_below_drewN | apply below_drew1) | exact HB.out)⟩⟩
        case round =>
          clear H'
          try clear c1
          try clear c2
          try clear p2
          try clear q2
          try clear hx2
          try clear qi2
          try clear c5
          try clear c9
          try clear c10
          try clear c10b0
          try clear c11
          try clear c11b0
          try clear c12
          try clear c12b0
          try clear c13
          try clear c13b0
          try clear c13b1
          try clear c14
          try clear c15
          try clear hx228_0
          try clear p2
          try clear p228
          try clear q2
          try clear q228
          obtain ⟨x13_2, x14_2, x15_2, x16_2, x17_2, rfl, rfl, rfl, rfl, rfl, HA, HK2, HB⟩ := hrel
          cases gk with
          | zero => exact absurd HA.out (by simp [chargeparklaw30_BidsMean.l0])
          | succ k2 =>
            have H := HA.out
            clear HA
            simp only [chargeparklaw30_BidsMean.l0] at H
            by_cases c17 : x17_2 < a2
            · rw [if_pos c17] at H
              have c17b0 : decide (x17_2 < a2) = true := decide_eq_true c17
              clear c17
              replace H := Option.bind_eq_some_iff.mp H
              obtain ⟨t231, A180, H⟩ := H
              replace H : (if t231 = true then (if 0 ≤ x17_2 then (if x17_2 < (l0.length : Int) then (if 0 ≤ a3 then (if a3 < ((rd_L1 l0 x17_2).length : Int) then (chargeparklaw30_BidsMean.l0 k2 l0 l1 a2 a3 true t229 t230 (wrap64 (x13_2 + 1)) (wrap64 (x14_2 + (rd (rd_L1 l0 x17_2) a3))) (mn x15_2 (rd (rd_L1 l0 x17_2) a3)) (mx x16_2 (rd (rd_L1 l0 x17_2) a3)) (wrap64 (x17_2 + 1))) else (none)) else (none)) else (none)) else (none)) else (chargeparklaw30_BidsMean.l0 k2 l0 l1 a2 a3 true t229 t230 x13_2 x14_2 x15_2 x16_2 (wrap64 (x17_2 + 1)))) = some r := H
              have A18 := Aside0.mk A180
              clear A180
              by_cases c19 : t231 = true
              · subst c19
                have H1 : (if 0 ≤ x17_2 then (if x17_2 < (l0.length : Int) then (if 0 ≤ a3 then (if a3 < ((rd_L1 l0 x17_2).length : Int) then (chargeparklaw30_BidsMean.l0 k2 l0 l1 a2 a3 true t229 t230 (wrap64 (x13_2 + 1)) (wrap64 (x14_2 + (rd (rd_L1 l0 x17_2) a3))) (mn x15_2 (rd (rd_L1 l0 x17_2) a3)) (mx x16_2 (rd (rd_L1 l0 x17_2) a3)) (wrap64 (x17_2 + 1))) else (none)) else (none)) else (none)) else (none)) = some r := by first | (rw [if_pos rfl] at H; exact H) | (rw [if_pos trivial] at H; exact H)
                clear H
                have H := H1
                clear H1
                by_cases c20 : 0 ≤ x17_2
                · rw [if_pos c20] at H
                  have c20b0 : decide (0 ≤ x17_2) = true := decide_eq_true c20
                  clear c20
                  by_cases c21 : x17_2 < (l0.length : Int)
                  · rw [if_pos c21] at H
                    have c21b0 : decide (x17_2 < (l0.length : Int)) = true := decide_eq_true c21
                    clear c21
                    by_cases c22 : 0 ≤ a3
                    · rw [if_pos c22] at H
                      have c22b0 : decide (0 ≤ a3) = true := decide_eq_true c22
                      clear c22
                      by_cases c23 : a3 < ((rd_L1 l0 x17_2).length : Int)
                      · rw [if_pos c23] at H
                        have c23b0 : decide (a3 < ((rd_L1 l0 x17_2).length : Int)) = true := decide_eq_true c23
                        clear c23
                        obtain ⟨ji24, hji24⟩ : ∃ j_ : Int, (mn x15_2 (rd (rd_L1 l0 x17_2) a3)) = j_ := ⟨_, rfl⟩
                        replace H : (chargeparklaw30_BidsMean.l0 k2 l0 l1 a2 a3 true t229 t230 (wrap64 (x13_2 + 1)) (wrap64 (x14_2 + (rd (rd_L1 l0 x17_2) a3))) ji24 (mx x16_2 (rd (rd_L1 l0 x17_2) a3)) (wrap64 (x17_2 + 1))) = some r := by first | (rw [hji24] at H; exact H) | (simp only [hji24] at H ⊢; exact H)
                        (try rw [hji24] at A18)
                        have hji24_ : (if (rd (rd_L1 l0 x17_2) a3) < x15_2 then (rd (rd_L1 l0 x17_2) a3) else x15_2) = ji24 := hji24
                        obtain ⟨ji25, hji25⟩ : ∃ j_ : Int, (mx x16_2 (rd (rd_L1 l0 x17_2) a3)) = j_ := ⟨_, rfl⟩
                        replace H : (chargeparklaw30_BidsMean.l0 k2 l0 l1 a2 a3 true t229 t230 (wrap64 (x13_2 + 1)) (wrap64 (x14_2 + (rd (rd_L1 l0 x17_2) a3))) ji24 ji25 (wrap64 (x17_2 + 1))) = some r := by first | (rw [hji25] at H; exact H) | (simp only [hji25] at H ⊢; exact H)
                        (try rw [hji25] at A18)
                        have hji25_ : (if x16_2 < (rd (rd_L1 l0 x17_2) a3) then (rd (rd_L1 l0 x17_2) a3) else x16_2) = ji25 := hji25
                        have H' := Aside0.mk H
                        clear H
                        go_wp2_with (first | ((with_reducible refine gate_callee (f := 16) rfl ?_); refine goesL_ (some 63) rfl rfl Try.func16 (by kernel_rfl) rfl #[.slice A1 l1.length c1, .int .i64 x17_2, .int .i64 a2] rfl (by (try simp only [List.map_toArray, List.map_cons, List.map_nil]); first | done | rfl | (simp only [List.length_drop, List.length_take]; rfl)) ?_; (with_reducible refine (chargeparklaw30_counts.calls k2 _ _ l1 x17_2 a2 true _ ?side1 ?side2 A18.out).mono ?_); (case side1 => repeat (first | exact (Kd.C_below HR1.out HB.out) | (with_reducible refine Kd.C_alloc ?_ _) | (with_reducible refine Kd.C_drewN ?_ _) | (with_reducible refine Kd.C_drew ?_))); (case side2 => exact HC1.out); rintro e w' ⟨rfl, ⟨nd, rfl⟩⟩; refine ⟨_, rfl, ?_⟩; have p232 : 0 ≤ (x17_2 : Int) := of_decide_eq_true (by first | (with_reducible assumption) | assumption); have q232 : x17_2 < (l0.length : Int) := of_decide_eq_true (by first | (with_reducible assumption) | assumption); obtain ⟨ad232, A232_0, c232_0, e232, hx232_0, hl232_0, hi232_0⟩ := at_L1 HR0.out x17_2 p232 q232; cases e232; replace hx232_0 := (HB.out.cell (World.block_lt_of_cell? w _ hx232_0)).trans hx232_0; have HR232_0 := Aside0.mk hi232_0; have HC232_0 := Aside0.mk hl232_0; clear hi232_0 hl232_0; replace p232 := eq_true p232; replace q232 := eq_true q232; have p233 : 0 ≤ (a3 : Int) := of_decide_eq_true (by first | (with_reducible assumption) | assumption); have q233 : a3 < ((rd_L1 l0 x17_2).length : Int) := of_decide_eq_true (by first | (with_reducible assumption) | assumption); obtain ⟨ad233, e233, hx233_0⟩ := Kd.at_int HR232_0.out a3 p233 q233; cases e233; replace hx233_0 := (HB.out.cell (World.block_lt_of_cell? w _ hx233_0)).trans hx233_0; replace p233 := eq_true p233; replace q233 := eq_true q233; have p234 : 0 ≤ (x17_2 : Int) := of_decide_eq_true (by first | (with_reducible assumption) | assumption); have q234 : x17_2 < (l0.length : Int) := of_decide_eq_true (by first | (with_reducible assumption) | assumption); obtain ⟨ad234, A234_0, c234_0, e234, hx234_0, hl234_0, hi234_0⟩ := at_L1 HR0.out x17_2 p234 q234; obtain rfl : ad232 = ad234 := (by injection e234); replace hx234_0 := (HB.out.cell (World.block_lt_of_cell? w _ hx234_0)).trans hx234_0; have HR234_0 := Aside0.mk hi234_0; have HC234_0 := Aside0.mk hl234_0; clear hi234_0 hl234_0; replace p234 := eq_true p234; replace q234 := eq_true q234; have ea_ := Option.some.inj (hx232_0.symm.trans hx234_0); injection ea_ with ea_ en_ ec_; subst ea_; subst ec_; clear en_; have p235 : 0 ≤ (a3 : Int) := of_decide_eq_true (by first | (with_reducible assumption) | assumption); have q235 : a3 < ((rd_L1 l0 x17_2).length : Int) := of_decide_eq_true (by first | (with_reducible assumption) | assumption); obtain ⟨ad235, e235, hx235_0⟩ := Kd.at_int HR234_0.out a3 p235 q235; cases e235; replace hx235_0 := (HB.out.cell (World.block_lt_of_cell? w _ hx235_0)).trans hx235_0; replace p235 := eq_true p235; replace q235 := eq_true q235; have p236 : 0 ≤ (x17_2 : Int) := of_decide_eq_true (by first | (with_reducible assumption) | assumption); have q236 : x17_2 < (l0.length : Int) := of_decide_eq_true (by first | (with_reducible assumption) | assumption); obtain ⟨ad236, A236_0, c236_0, e236, hx236_0, hl236_0, hi236_0⟩ := at_L1 HR0.out x17_2 p236 q236; obtain rfl : ad232 = ad236 := (by injection e236); replace hx236_0 := (HB.out.cell (World.block_lt_of_cell? w _ hx236_0)).trans hx236_0; have HR236_0 := Aside0.mk hi236_0; have HC236_0 := Aside0.mk hl236_0; clear hi236_0 hl236_0; replace p236 := eq_true p236; replace q236 := eq_true q236; have ea_ := Option.some.inj (hx232_0.symm.trans hx236_0); injection ea_ with ea_ en_ ec_; subst ea_; subst ec_; clear en_; have p237 : 0 ≤ (a3 : Int) := of_decide_eq_true (by first | (with_reducible assumption) | assumption); have q237 : a3 < ((rd_L1 l0 x17_2).length : Int) := of_decide_eq_true (by first | (with_reducible assumption) | assumption); obtain ⟨ad237, e237, hx237_0⟩ := Kd.at_int HR236_0.out a3 p237 q237; cases e237; replace hx237_0 := (HB.out.cell (World.block_lt_of_cell? w _ hx237_0)).trans hx237_0; replace p237 := eq_true p237; replace q237 := eq_true q237))
                        go_roundg k2
                        case measure => have := HJ6.out; have := HK2.out; omega
                        case rel => exact ⟨(wrap64 (x13_2 + 1)), (wrap64 (x14_2 + (rd (rd_L1 l0 x17_2) a3))), (ji24), (ji25), (wrap64 (x17_2 + 1)), (by first | rfl | (simp; done) | (simp [*]; done)), (by first | rfl | (simp; done) | (simp [*]; done)), (by first | rfl | (simp; done) | (simp only [← hji24] <;> (first | rfl | simp)) | (simp [*]; done)), (by first | rfl | (simp; done) | (simp only [← hji25] <;> (first | rfl | simp)) | (simp [*]; done)), (by first | rfl | (simp; done) | (simp [*]; done)), H', ⟨by have := HJ6.out; have := HK2.out; omega⟩, ⟨by repeat (first | (with_reducible first | exact HB.out | apply below_alloc | apply pw_below_drewN | apply below_drew1) | exact HB.out)⟩⟩
                      · rw [if_neg c23] at H
                        exact absurd H (by simp)
                    · rw [if_neg c22] at H
                      exact absurd H (by simp)
                  · rw [if_neg c21] at H
                    exact absurd H (by simp)
                · rw [if_neg c20] at H
                  exact absurd H (by simp)
              · replace c19 := Bool.eq_false_iff.mpr c19
                subst c19
                have H1 : (chargeparklaw30_BidsMean.l0 k2 l0 l1 a2 a3 true t229 t230 x13_2 x14_2 x15_2 x16_2 (wrap64 (x17_2 + 1))) = some r := by rw [if_neg (show ¬ (false = true) by decide)] at H; exact H
                clear H
                have H := H1
                clear H1
                have H' := Aside0.mk H
                clear H
                go_wp2_with (first | ((with_reducible refine gate_callee (f := 16) rfl ?_); refine goesL_ (some 63) rfl rfl Try.func16 (by kernel_rfl) rfl #[.slice A1 l1.length c1, .int .i64 x17_2, .int .i64 a2] rfl (by (try simp only [List.map_toArray, List.map_cons, List.map_nil]); first | done | rfl | (simp only [List.length_drop, List.length_take]; rfl)) ?_; (with_reducible refine (chargeparklaw30_counts.calls k2 _ _ l1 x17_2 a2 false _ ?side1 ?side2 A18.out).mono ?_); (case side1 => repeat (first | exact (Kd.C_below HR1.out HB.out) | (with_reducible refine Kd.C_alloc ?_ _) | (with_reducible refine Kd.C_drewN ?_ _) | (with_reducible refine Kd.C_drew ?_))); (case side2 => exact HC1.out); rintro e w' ⟨rfl, ⟨nd, rfl⟩⟩; refine ⟨_, rfl, ?_⟩))
                go_roundg k2
                case measure => have := HJ6.out; have := HK2.out; omega
                case rel => exact ⟨(x13_2), (x14_2), (x15_2), (x16_2), (wrap64 (x17_2 + 1)), (by first | rfl | (simp; done) | (simp [*]; done)), (by first | rfl | (simp; done) | (simp [*]; done)), (by first | rfl | (simp; done) | (simp [*]; done)), (by first | rfl | (simp; done) | (simp [*]; done)), (by first | rfl | (simp; done) | (simp [*]; done)), H', ⟨by have := HJ6.out; have := HK2.out; omega⟩, ⟨by repeat (first | (with_reducible first | exact HB.out | apply below_alloc | apply pw_below_drewN | apply below_drew1) | exact HB.out)⟩⟩
            · rw [if_neg c17] at H
              have c17b0 : decide (x17_2 < a2) = false := decide_eq_false c17
              clear c17
              by_cases c26 : x13_2 < 5
              · rw [if_pos c26] at H
                have c26b0 : decide (x13_2 < 5) = true := decide_eq_true c26
                clear c26
                by_cases c27 : (true = true)
                · clear c27
                  have H1 : (if t230 = 4 then (some (t229 == 0)) else (some false)) = some r := by first | (rw [if_pos rfl] at H; exact H) | (rw [if_pos trivial] at H; exact H)
                  clear H
                  have H := H1
                  clear H1
                  by_cases c28 : t230 = 4
                  · rw [if_pos c28] at H
                    have c28b0 : (t230 == 4) = true := beq_iff_eq.mpr c28
                    have c28b1 : (t230 != 4) = false := bne_eq_false_iff_eq.mpr c28
                    clear c28
                    obtain rfl := Option.some.inj H
                    simp only [Option.some.injEq, Prod.mk.injEq] at H
                    obtain ⟨rfl⟩ := H
                    go_wp2
                    go_ret
                    exact ⟨by first | rfl | (simp [errW_none, errW_some] <;> rfl) | (simp [*, errW_none, errW_some] <;> rfl), by repeat (first | (with_reducible first | exact HB.out | apply below_alloc | apply pw_below_drewN | apply below_drew1) | exact HB.out)⟩
                  · rw [if_neg c28] at H
                    have c28b0 : (t230 == 4) = false := beq_eq_false_iff_ne.mpr c28
                    have c28b1 : (t230 != 4) = true := bne_iff_ne.mpr c28
                    obtain rfl := Option.some.inj H
                    exact absurd hr.out (by decide)
                · exact absurd rfl c27
              · rw [if_neg c26] at H
                have c26b0 : decide (x13_2 < 5) = false := decide_eq_false c26
                clear c26
                by_cases c29 : (true = true)
                · clear c29
                  have H1 : (if t230 = 0 then (if t229 ≥ x15_2 then (if t229 ≤ x16_2 then (if (wrap64 (5 * t229)) ≤ x14_2 then (some (decide ((wrap64 (5 * t229)) > (wrap64 (x14_2 - 5))))) else (some false)) else (some false)) else (some false)) else (some false)) = some r := by first | (rw [if_pos rfl] at H; exact H) | (rw [if_pos trivial] at H; exact H)
                  clear H
                  have H := H1
                  clear H1
                  by_cases c30 : t230 = 0
                  · rw [if_pos c30] at H
                    have c30b0 : (t230 == 0) = true := beq_iff_eq.mpr c30
                    have c30b1 : (t230 != 0) = false := bne_eq_false_iff_eq.mpr c30
                    clear c30
                    by_cases c31 : t229 ≥ x15_2
                    · rw [if_pos c31] at H
                      have c31b0 : decide (x15_2 ≤ t229) = true := decide_eq_true c31
                      clear c31
                      by_cases c32 : t229 ≤ x16_2
                      · rw [if_pos c32] at H
                        have c32b0 : decide (t229 ≤ x16_2) = true := decide_eq_true c32
                        clear c32
                        by_cases c33 : (wrap64 (5 * t229)) ≤ x14_2
                        · rw [if_pos c33] at H
                          have c33b0 : decide ((wrap64 (5 * t229)) ≤ x14_2) = true := decide_eq_true c33
                          clear c33
                          obtain rfl := Option.some.inj H
                          simp only [Option.some.injEq, Prod.mk.injEq] at H
                          obtain ⟨rfl⟩ := H
                          go_wp2
                          go_ret
                          exact ⟨by first | rfl | (simp [errW_none, errW_some] <;> rfl) | (simp [*, errW_none, errW_some] <;> rfl), by repeat (first | (with_reducible first | exact HB.out | apply below_alloc | apply pw_below_drewN | apply below_drew1) | exact HB.out)⟩
                        · rw [if_neg c33] at H
                          have c33b0 : decide ((wrap64 (5 * t229)) ≤ x14_2) = false := decide_eq_false c33
                          clear c33
                          obtain rfl := Option.some.inj H
                          exact absurd hr.out (by decide)
                      · rw [if_neg c32] at H
                        have c32b0 : decide (t229 ≤ x16_2) = false := decide_eq_false c32
                        clear c32
                        obtain rfl := Option.some.inj H
                        exact absurd hr.out (by decide)
                    · rw [if_neg c31] at H
                      have c31b0 : decide (x15_2 ≤ t229) = false := decide_eq_false c31
                      clear c31
                      obtain rfl := Option.some.inj H
                      exact absurd hr.out (by decide)
                  · rw [if_neg c30] at H
                    have c30b0 : (t230 == 0) = false := beq_eq_false_iff_ne.mpr c30
                    have c30b1 : (t230 != 0) = true := bne_iff_ne.mpr c30
                    obtain rfl := Option.some.inj H
                    exact absurd hr.out (by decide)
                · exact absurd rfl c29
end Go.Proofs.Ytakmioomcnnfjaa.PAll
