/- What the Go functions of this seat's laws return, told as Lean functions and proved by their walks; laid by a program of this session out of Lean's own print of the translation. No conditions of its own. -/
import Derived.Test.YtakmioomcnnfjaaPAllx0
import Derived.Test.YtakmioomcnnfjaaPAllx1
import Derived.Test.YtakmioomcnnfjaaPAllx2
import Derived.Test.YtakmioomcnnfjaaPAllx4
import Derived.Test.YtakmioomcnnfjaaPAllx5
namespace Go.Proofs.Ytakmioomcnnfjaa.PAll
open Go.RowKit Go.Proofs.YtakmioomcnnfjaaW.PrintWords Go.Proofs.YtakmioomcnnfjaaW.PrintLast Go.Proofs.YtakmioomcnnfjaaW.PrintMore
attribute [local go_sem] max2_int min2_int max_two min_two max_three min_three max_four min_four   -- for this text's walks alone
set_option linter.unusedVariables false
set_option linter.unusedSimpArgs false

/-! ### chargeparklaw30_BidsUnshifted: function 4 -/
mutual
def chargeparklaw30_BidsUnshifted.j0 : Nat → List (List Int) → List Bool → Int → Int → Int → Int → Bool → Bool → Option (Bool)
  | 0, _, _, _, _, _, _, _, _ => none
  | k + 1, x0, x1, x2, x3, x4, x5, x13, x53 => if x53 = true then (some x13) else (if (x0.length : Int) = 0 then (none) else ((chargeparklaw30_counts.f k x1 (Int.tmod x4 (x0.length : Int)) x2).bind fun t213 => (if t213 = true then (some x13) else ((chargeparkref30_Copy.f k x0).bind fun t214 => (if 0 ≤ (Int.tmod x4 (x0.length : Int)) then (if (Int.tmod x4 (x0.length : Int)) < (t214.length : Int) then (if ((rd_L1 t214 (Int.tmod x4 (x0.length : Int))).length : Int) = 0 then (none) else (if 0 ≤ (Int.tmod x3 ((rd_L1 t214 (Int.tmod x4 (x0.length : Int))).length : Int)) then (if (Int.tmod x3 ((rd_L1 t214 (Int.tmod x4 (x0.length : Int))).length : Int)) < ((rd_L1 t214 (Int.tmod x4 (x0.length : Int))).length : Int) then (chargeparklaw30_BidsUnshifted.l0 k x0 x1 x2 x13 (t214.set ((Int.tmod x4 (x0.length : Int)) : Int).toNat ((rd_L1 t214 (Int.tmod x4 (x0.length : Int))).set ((Int.tmod x3 ((rd_L1 t214 (Int.tmod x4 (x0.length : Int))).length : Int)) : Int).toNat x5)) 0) else (none)) else (none))) else (none)) else (none))))))
def chargeparklaw30_BidsUnshifted.l0 : Nat → List (List Int) → List Bool → Int → Bool → List (List Int) → Int → Option (Bool)
  | 0, _, _, _, _, _, _ => none
  | k + 1, x0, x1, x2, x13, x16, x17 => if 0 < (x0.length : Int) then (if x17 < ((rd_L1 x0 0).length : Int) then ((bids_Baseline.f k x0 x1 x2 x17).bind fun bt223 => ((bids_Baseline.f k x16 x1 x2 x17).bind fun bt225 => (if x13 = true then (if bt223.1 = bt225.1 then (chargeparklaw30_BidsUnshifted.l0 k x0 x1 x2 (bt223.2 == bt225.2) x16 (wrap64 (x17 + 1))) else (chargeparklaw30_BidsUnshifted.l0 k x0 x1 x2 false x16 (wrap64 (x17 + 1)))) else (chargeparklaw30_BidsUnshifted.l0 k x0 x1 x2 false x16 (wrap64 (x17 + 1)))))) else (some x13)) else (none)
end
def chargeparklaw30_BidsUnshifted.f (k : Nat) (l0 : List (List Int)) (l1 : List Bool) (a2 : Int) (a3 : Int) (a4 : Int) (a5 : Int) : Option (Bool) := (chargeparklaw30_head_c.f).bind fun _ => ((chargeparklaw30_usable.f k l0 l1).bind fun t212 => (if t212 = true then (if a4 < 0 then (chargeparklaw30_BidsUnshifted.j0 k l0 l1 a2 a3 a4 a5 true true) else (if a5 < 0 then (chargeparklaw30_BidsUnshifted.j0 k l0 l1 a2 a3 a4 a5 true true) else (if a5 > 1000 then (chargeparklaw30_BidsUnshifted.j0 k l0 l1 a2 a3 a4 a5 true true) else (if a2 < 0 then (chargeparklaw30_BidsUnshifted.j0 k l0 l1 a2 a3 a4 a5 true true) else (if a2 > (l0.length : Int) then (chargeparklaw30_BidsUnshifted.j0 k l0 l1 a2 a3 a4 a5 true true) else (chargeparklaw30_BidsUnshifted.j0 k l0 l1 a2 a3 a4 a5 true (decide (a3 < 0)))))))) else (chargeparklaw30_BidsUnshifted.j0 k l0 l1 a2 a3 a4 a5 true true)))
theorem chargeparklaw30_BidsUnshifted.mono_l : ∀ k, (∀ y0 y1 y2 y3 y4 y5 y6 y7, LeO (chargeparklaw30_BidsUnshifted.j0 k y0 y1 y2 y3 y4 y5 y6 y7) (chargeparklaw30_BidsUnshifted.j0 (k + 1) y0 y1 y2 y3 y4 y5 y6 y7)) ∧ (∀ y0 y1 y2 y3 y4 y5, LeO (chargeparklaw30_BidsUnshifted.l0 k y0 y1 y2 y3 y4 y5) (chargeparklaw30_BidsUnshifted.l0 (k + 1) y0 y1 y2 y3 y4 y5))
  | 0 => ⟨fun _ _ _ _ _ _ _ _ r h => by simp [chargeparklaw30_BidsUnshifted.j0] at h, fun _ _ _ _ _ _ r h => by simp [chargeparklaw30_BidsUnshifted.l0] at h⟩
  | k + 1 => by
    obtain ⟨ih0, ih1⟩ := chargeparklaw30_BidsUnshifted.mono_l k
    refine ⟨?_, ?_⟩
    · intro y0 y1 y2 y3 y4 y5 y6 y7
      unfold chargeparklaw30_BidsUnshifted.j0
      repeat' first
      | (with_reducible exact ih0 _ _ _ _ _ _ _ _)
      | (with_reducible exact ih1 _ _ _ _ _ _)
      | (with_reducible exact bids_Baseline.mono _ _ _ _ _)
      | (with_reducible exact chargeparklaw30_counts.mono _ _ _ _)
      | (with_reducible exact chargeparklaw30_usable.mono _ _ _)
      | (with_reducible exact chargeparkref30_Copy.mono _ _)
      | (with_reducible exact LeO.refl _)
      | (with_reducible exact LeO.none _)
      | (with_reducible refine LeO.ite ?_ ?_)
      | (with_reducible refine LeO.bind ?_ (fun _ => ?_))
      | exact ih0 _ _ _ _ _ _ _ _
      | exact ih1 _ _ _ _ _ _
      | exact bids_Baseline.mono _ _ _ _ _
      | exact chargeparklaw30_counts.mono _ _ _ _
      | exact chargeparklaw30_usable.mono _ _ _
      | exact chargeparkref30_Copy.mono _ _
      | exact LeO.none _
      | refine LeO.ite ?_ ?_
      | refine LeO.bind ?_ (fun _ => ?_)
    · intro y0 y1 y2 y3 y4 y5
      unfold chargeparklaw30_BidsUnshifted.l0
      repeat' first
      | (with_reducible exact ih0 _ _ _ _ _ _ _ _)
      | (with_reducible exact ih1 _ _ _ _ _ _)
      | (with_reducible exact bids_Baseline.mono _ _ _ _ _)
      | (with_reducible exact chargeparklaw30_counts.mono _ _ _ _)
      | (with_reducible exact chargeparklaw30_usable.mono _ _ _)
      | (with_reducible exact chargeparkref30_Copy.mono _ _)
      | (with_reducible exact LeO.refl _)
      | (with_reducible exact LeO.none _)
      | (with_reducible refine LeO.ite ?_ ?_)
      | (with_reducible refine LeO.bind ?_ (fun _ => ?_))
      | exact ih0 _ _ _ _ _ _ _ _
      | exact ih1 _ _ _ _ _ _
      | exact bids_Baseline.mono _ _ _ _ _
      | exact chargeparklaw30_counts.mono _ _ _ _
      | exact chargeparklaw30_usable.mono _ _ _
      | exact chargeparkref30_Copy.mono _ _
      | exact LeO.none _
      | refine LeO.ite ?_ ?_
      | refine LeO.bind ?_ (fun _ => ?_)
theorem chargeparklaw30_BidsUnshifted.mono : ∀ a0 a1 a2 a3 a4 a5 k, LeO (chargeparklaw30_BidsUnshifted.f k a0 a1 a2 a3 a4 a5) (chargeparklaw30_BidsUnshifted.f (k + 1) a0 a1 a2 a3 a4 a5) := by
  intro a0 a1 a2 a3 a4 a5 k
  obtain ⟨ih0, ih1⟩ := chargeparklaw30_BidsUnshifted.mono_l k
  unfold chargeparklaw30_BidsUnshifted.f
  repeat' first
      | (with_reducible exact ih0 _ _ _ _ _ _ _ _)
      | (with_reducible exact ih1 _ _ _ _ _ _)
      | (with_reducible exact bids_Baseline.mono _ _ _ _ _)
      | (with_reducible exact chargeparklaw30_counts.mono _ _ _ _)
      | (with_reducible exact chargeparklaw30_usable.mono _ _ _)
      | (with_reducible exact chargeparkref30_Copy.mono _ _)
      | (with_reducible exact LeO.refl _)
      | (with_reducible exact LeO.none _)
      | (with_reducible refine LeO.ite ?_ ?_)
      | (with_reducible refine LeO.bind ?_ (fun _ => ?_))
      | exact ih0 _ _ _ _ _ _ _ _
      | exact ih1 _ _ _ _ _ _
      | exact bids_Baseline.mono _ _ _ _ _
      | exact chargeparklaw30_counts.mono _ _ _ _
      | exact chargeparklaw30_usable.mono _ _ _
      | exact chargeparkref30_Copy.mono _ _
      | exact LeO.none _
      | refine LeO.ite ?_ ?_
      | refine LeO.bind ?_ (fun _ => ?_)
def chargeparklaw30_BidsUnshifted.T9 : Bool × List (List Nat × List Nat) := (true, [([], []), ([], []), ([0, 1], [0, 1]), ([2], [2]), ([], []), ([], []), ([], []), ([5, 6], [5, 6]), ([7], [7]), ([8], [8]), ([4, 9], [4, 9]), ([], []), ([3, 10, 0, 1, 2, 3, 4, 5, 6, 7, 8, 9, 10, 11], [3, 10]), ([12, 11, 0, 1, 2, 3, 4, 5, 6, 7, 8, 9, 10, 11], [11, 12])])
def chargeparklaw30_BidsUnshifted.B9 : List Nat := [0, 0, 3, 7, 0, 0, 0, 96, 224, 480, 1008, 0, 4095, 8191]
theorem chargeparklaw30_BidsUnshifted.tab9 : rtab .any (opsOf Try.f4 9) = chargeparklaw30_BidsUnshifted.T9 := by kernel_rfl
theorem chargeparklaw30_BidsUnshifted.bits9 : waitsOk chargeparklaw30_BidsUnshifted.T9.2 chargeparklaw30_BidsUnshifted.B9 = true := by kernel_rfl
set_option maxHeartbeats 8000000 in
set_option maxRecDepth 100000 in
theorem chargeparklaw30_BidsUnshifted.calls (k : Nat) (A0 : Option Addr) (c0 : Nat) (l0 : List (List Int)) (A1 : Option Addr) (c1 : Nat) (l1 : List Bool) (a2 : Int) (a3 : Int) (a4 : Int) (a5 : Int) (r : Bool) (w : World) (hr0 : Kd.C (Kd.slice 3 (Kd.int .i64)) w A0 l0.length l0) (hc0 : l0.length ≤ c0) (hr1 : Kd.C Kd.bool w A1 l1.length l1) (hc1 : l1.length ≤ c1) (h : chargeparklaw30_BidsUnshifted.f k l0 l1 a2 a3 a4 a5 = some r) (hr : Aside0 (r = true)) :
    Calls Try.prog 4 #[.slice A0 l0.length c0, .slice A1 l1.length c1, .int .i64 a2, .int .i64 a3, .int .i64 a4, .int .i64 a5] w fun e w' => e = .returned (.bool r) ∧ Below w.heap.size w w' := by
  have HR0 := Aside0.mk hr0
  have HC0 := Aside0.mk hc0
  clear hr0 hc0
  have HR1 := Aside0.mk hr1
  have HC1 := Aside0.mk hc1
  clear hr1 hc1
  have HB := Aside0.mk (Below.refl w.heap.size w)
  have H : ((chargeparklaw30_head_c.f).bind fun _ => ((chargeparklaw30_usable.f k l0 l1).bind fun t212 => (if t212 = true then (if a4 < 0 then (chargeparklaw30_BidsUnshifted.j0 k l0 l1 a2 a3 a4 a5 true true) else (if a5 < 0 then (chargeparklaw30_BidsUnshifted.j0 k l0 l1 a2 a3 a4 a5 true true) else (if a5 > 1000 then (chargeparklaw30_BidsUnshifted.j0 k l0 l1 a2 a3 a4 a5 true true) else (if a2 < 0 then (chargeparklaw30_BidsUnshifted.j0 k l0 l1 a2 a3 a4 a5 true true) else (if a2 > (l0.length : Int) then (chargeparklaw30_BidsUnshifted.j0 k l0 l1 a2 a3 a4 a5 true true) else (chargeparklaw30_BidsUnshifted.j0 k l0 l1 a2 a3 a4 a5 true (decide (a3 < 0)))))))) else (chargeparklaw30_BidsUnshifted.j0 k l0 l1 a2 a3 a4 a5 true true)))) = some r := h
  clear h
  replace H := Option.bind_eq_some_iff.mp H
  obtain ⟨tc_, A70, H⟩ := H
  obtain rfl : true = tc_ := Option.some.inj ((show chargeparklaw30_head_c.f = some true by kernel_rfl).symm.trans A70)
  replace H : ((chargeparklaw30_usable.f k l0 l1).bind fun t212 => (if t212 = true then (if a4 < 0 then (chargeparklaw30_BidsUnshifted.j0 k l0 l1 a2 a3 a4 a5 true true) else (if a5 < 0 then (chargeparklaw30_BidsUnshifted.j0 k l0 l1 a2 a3 a4 a5 true true) else (if a5 > 1000 then (chargeparklaw30_BidsUnshifted.j0 k l0 l1 a2 a3 a4 a5 true true) else (if a2 < 0 then (chargeparklaw30_BidsUnshifted.j0 k l0 l1 a2 a3 a4 a5 true true) else (if a2 > (l0.length : Int) then (chargeparklaw30_BidsUnshifted.j0 k l0 l1 a2 a3 a4 a5 true true) else (chargeparklaw30_BidsUnshifted.j0 k l0 l1 a2 a3 a4 a5 true (decide (a3 < 0)))))))) else (chargeparklaw30_BidsUnshifted.j0 k l0 l1 a2 a3 a4 a5 true true))) = some r := H
  have A7 := Aside0.mk A70
  clear A70
  replace H := Option.bind_eq_some_iff.mp H
  obtain ⟨t212, A80, H⟩ := H
  replace H : (if t212 = true then (if a4 < 0 then (chargeparklaw30_BidsUnshifted.j0 k l0 l1 a2 a3 a4 a5 true true) else (if a5 < 0 then (chargeparklaw30_BidsUnshifted.j0 k l0 l1 a2 a3 a4 a5 true true) else (if a5 > 1000 then (chargeparklaw30_BidsUnshifted.j0 k l0 l1 a2 a3 a4 a5 true true) else (if a2 < 0 then (chargeparklaw30_BidsUnshifted.j0 k l0 l1 a2 a3 a4 a5 true true) else (if a2 > (l0.length : Int) then (chargeparklaw30_BidsUnshifted.j0 k l0 l1 a2 a3 a4 a5 true true) else (chargeparklaw30_BidsUnshifted.j0 k l0 l1 a2 a3 a4 a5 true (decide (a3 < 0)))))))) else (chargeparklaw30_BidsUnshifted.j0 k l0 l1 a2 a3 a4 a5 true true)) = some r := H
  have A8 := Aside0.mk A80
  clear A80
  have HC9 := Aside0.mk H
  clear H
  go_enter Try.func4, Try.ntmps4
  go_upto_region 3 with (first | ((with_reducible refine gate_callee (f := 9) rfl ?_); refine goesL_ (some 22) rfl rfl Try.func9 (by kernel_rfl) rfl #[] rfl (by (try simp only [List.map_toArray, List.map_cons, List.map_nil]); first | done | rfl | (simp only [List.length_drop, List.length_take]; rfl)) ?_; (with_reducible refine (chargeparklaw30_head_c.calls  true _ A7.out).mono ?_); rintro e w10 ⟨rfl, hb⟩; refine ⟨_, rfl, ?_⟩; have n0_ := Aside0.mk (below_step (by repeat (first | (with_reducible first | exact HB.out | apply below_alloc | apply pw_below_drewN | apply below_drew1) | exact HB.out)) hb); clear HB; have HB := n0_; clear n0_; (try clear hb); (try clear hb2); (try clear hk); (try clear hi)) | ((with_reducible refine gate_callee (f := 15) rfl ?_); refine goesL_ (some 25) rfl rfl Try.func15 (by kernel_rfl) rfl #[.slice A0 l0.length c0, .slice A1 l1.length c1] rfl (by (try simp only [List.map_toArray, List.map_cons, List.map_nil]); first | done | rfl | (simp only [List.length_drop, List.length_take]; rfl)) ?_; (with_reducible refine (chargeparklaw30_usable.calls k _ _ l0 _ _ l1 t212 _ ?side1 ?side2 ?side3 ?side4 A8.out).mono ?_); (case side1 => repeat (first | exact (Kd.C_below HR0.out HB.out) | (with_reducible refine Kd.C_alloc ?_ _) | (with_reducible refine Kd.C_drewN ?_ _) | (with_reducible refine Kd.C_drew ?_))); (case side2 => exact HC0.out); (case side3 => repeat (first | exact (Kd.C_below HR1.out HB.out) | (with_reducible refine Kd.C_alloc ?_ _) | (with_reducible refine Kd.C_drewN ?_ _) | (with_reducible refine Kd.C_drew ?_))); (case side4 => exact HC1.out); rintro e w' ⟨rfl, ⟨nd, rfl⟩⟩; refine ⟨_, rfl, ?_⟩))
  (try simp only [Act.put, List.setIfInBounds_toArray, List.set_cons_zero, List.set_cons_succ])
  go_cut [53] (fun v53 wc => ∃ (kq : Nat) (x53_8 : Bool), v53 = .bool x53_8 ∧ Aside0 (chargeparklaw30_BidsUnshifted.j0 kq l0 l1 a2 a3 a4 a5 true x53_8 = some r) ∧ Aside0 (kq ≤ k) ∧ Aside0 (Below w.heap.size w wc))
  case first =>
    have H := HC9.out
    clear HC9
    by_cases c11 : t212 = true
    · subst c11
      have H1 : (if a4 < 0 then (chargeparklaw30_BidsUnshifted.j0 k l0 l1 a2 a3 a4 a5 true true) else (if a5 < 0 then (chargeparklaw30_BidsUnshifted.j0 k l0 l1 a2 a3 a4 a5 true true) else (if a5 > 1000 then (chargeparklaw30_BidsUnshifted.j0 k l0 l1 a2 a3 a4 a5 true true) else (if a2 < 0 then (chargeparklaw30_BidsUnshifted.j0 k l0 l1 a2 a3 a4 a5 true true) else (if a2 > (l0.length : Int) then (chargeparklaw30_BidsUnshifted.j0 k l0 l1 a2 a3 a4 a5 true true) else (chargeparklaw30_BidsUnshifted.j0 k l0 l1 a2 a3 a4 a5 true (decide (a3 < 0)))))))) = some r := by first | (rw [if_pos rfl] at H; exact H) | (rw [if_pos trivial] at H; exact H)
      clear H
      have H := H1
      clear H1
      by_cases c12 : a4 < 0
      · rw [if_pos c12] at H
        have c12b0 : decide (a4 < 0) = true := decide_eq_true c12
        clear c12
        (first | rw [c12b0] | (simp only [i64_w, i32_w]; rw [c12b0]) | skip)
        have H' := Aside0.mk H
        clear H
        go_wp2
        go_meet
        case rel => exact ⟨_, (true), (by first | rfl | (simp; done) | (simp [*]; done)), H', ⟨by first | omega | exact Nat.le_refl _⟩, ⟨by repeat (first | (with_reducible first | exact HB.out | apply below_alloc | apply pw_below_drewN | apply below_drew1) | exact HB.out)⟩⟩
      · rw [if_neg c12] at H
        have c12b0 : decide (a4 < 0) = false := decide_eq_false c12
        clear c12
        (first | rw [c12b0] | (simp only [i64_w, i32_w]; rw [c12b0]) | skip)
        by_cases c13 : a5 < 0
        · rw [if_pos c13] at H
          have c13b0 : decide (a5 < 0) = true := decide_eq_true c13
          clear c13
          have H' := Aside0.mk H
          clear H
          go_wp2
          go_meet
          case rel => exact ⟨_, (true), (by first | rfl | (simp; done) | (simp [*]; done)), H', ⟨by first | omega | exact Nat.le_refl _⟩, ⟨by repeat (first | (with_reducible first | exact HB.out | apply below_alloc | apply pw_below_drewN | apply below_drew1) | exact HB.out)⟩⟩
        · rw [if_neg c13] at H
          have c13b0 : decide (a5 < 0) = false := decide_eq_false c13
          clear c13
          by_cases c14 : a5 > 1000
          · rw [if_pos c14] at H
            have c14b0 : decide (1000 < a5) = true := decide_eq_true c14
            clear c14
            have H' := Aside0.mk H
            clear H
            go_wp2
            go_meet
            case rel => exact ⟨_, (true), (by first | rfl | (simp; done) | (simp [*]; done)), H', ⟨by first | omega | exact Nat.le_refl _⟩, ⟨by repeat (first | (with_reducible first | exact HB.out | apply below_alloc | apply pw_below_drewN | apply below_drew1) | exact HB.out)⟩⟩
          · rw [if_neg c14] at H
            have c14b0 : decide (1000 < a5) = false := decide_eq_false c14
            clear c14
            by_cases c15 : a2 < 0
            · rw [if_pos c15] at H
              have c15b0 : decide (a2 < 0) = true := decide_eq_true c15
              clear c15
              have H' := Aside0.mk H
              clear H
              go_wp2
              go_meet
              case rel => exact ⟨_, (true), (by first | rfl | (simp; done) | (simp [*]; done)), H', ⟨by first | omega | exact Nat.le_refl _⟩, ⟨by repeat (first | (with_reducible first | exact HB.out | apply below_alloc | apply pw_below_drewN | apply below_drew1) | exact HB.out)⟩⟩
            · rw [if_neg c15] at H
              have c15b0 : decide (a2 < 0) = false := decide_eq_false c15
              clear c15
              by_cases c16 : a2 > (l0.length : Int)
              · rw [if_pos c16] at H
                have c16b0 : decide ((l0.length : Int) < a2) = true := decide_eq_true c16
                clear c16
                have H' := Aside0.mk H
                clear H
                go_wp2
                go_meet
                case rel => exact ⟨_, (true), (by first | rfl | (simp; done) | (simp [*]; done)), H', ⟨by first | omega | exact Nat.le_refl _⟩, ⟨by repeat (first | (with_reducible first | exact HB.out | apply below_alloc | apply pw_below_drewN | apply below_drew1) | exact HB.out)⟩⟩
              · rw [if_neg c16] at H
                have c16b0 : decide ((l0.length : Int) < a2) = false := decide_eq_false c16
                clear c16
                have H' := Aside0.mk H
                clear H
                go_wp2
                go_meet
                case rel => exact ⟨_, (decide (a3 < 0)), (by first | rfl | (simp; done) | (simp [*]; done)), H', ⟨by first | omega | exact Nat.le_refl _⟩, ⟨by repeat (first | (with_reducible first | exact HB.out | apply below_alloc | apply pw_below_drewN | apply below_drew1) | exact HB.out)⟩⟩
    · replace c11 := Bool.eq_false_iff.mpr c11
      subst c11
      have H1 : (chargeparklaw30_BidsUnshifted.j0 k l0 l1 a2 a3 a4 a5 true true) = some r := by rw [if_neg (show ¬ (false = true) by decide)] at H; exact H
      clear H
      have H := H1
      clear H1
      have H' := Aside0.mk H
      clear H
      go_wp2
      go_meet
      case rel => exact ⟨_, (true), (by first | rfl | (simp; done) | (simp [*]; done)), H', ⟨by first | omega | exact Nat.le_refl _⟩, ⟨by repeat (first | (with_reducible first | exact HB.out | apply below_alloc | apply pw_below_drewN | apply below_drew1) | exact HB.out)⟩⟩
  case rest =>
    clear HC9
    try clear c1
    try clear p2
    try clear c4
    try clear c9
    try clear c11
    try clear c12
    try clear c12b0
    try clear c13
    try clear c13b0
    try clear c14
    try clear c14b0
    try clear c15
    try clear c15b0
    try clear c16
    try clear c16b0
    obtain ⟨kq, x53_8, rfl, HA, HJ8, HB⟩ := hcut
    cases kq with
    | zero => exact absurd HA.out (by simp [chargeparklaw30_BidsUnshifted.j0])
    | succ kj8 =>
      have H := HA.out
      clear HA
      simp only [chargeparklaw30_BidsUnshifted.j0] at H
      by_cases c17 : x53_8 = true
      · subst c17
        have H1 : (some true) = some r := by first | (rw [if_pos rfl] at H; exact H) | (rw [if_pos trivial] at H; exact H)
        clear H
        have H := H1
        clear H1
        obtain rfl := Option.some.inj H
        simp only [Option.some.injEq, Prod.mk.injEq] at H
        obtain ⟨rfl⟩ := H
        go_wp2
        go_ret
        exact ⟨by first | rfl | (simp [errW_none, errW_some] <;> rfl) | (simp [*, errW_none, errW_some] <;> rfl), by repeat (first | (with_reducible first | exact HB.out | apply below_alloc | apply pw_below_drewN | apply below_drew1) | exact HB.out)⟩
      · replace c17 := Bool.eq_false_iff.mpr c17
        subst c17
        have H1 : (if (l0.length : Int) = 0 then (none) else ((chargeparklaw30_counts.f kj8 l1 (Int.tmod a4 (l0.length : Int)) a2).bind fun t213 => (if t213 = true then (some true) else ((chargeparkref30_Copy.f kj8 l0).bind fun t214 => (if 0 ≤ (Int.tmod a4 (l0.length : Int)) then (if (Int.tmod a4 (l0.length : Int)) < (t214.length : Int) then (if ((rd_L1 t214 (Int.tmod a4 (l0.length : Int))).length : Int) = 0 then (none) else (if 0 ≤ (Int.tmod a3 ((rd_L1 t214 (Int.tmod a4 (l0.length : Int))).length : Int)) then (if (Int.tmod a3 ((rd_L1 t214 (Int.tmod a4 (l0.length : Int))).length : Int)) < ((rd_L1 t214 (Int.tmod a4 (l0.length : Int))).length : Int) then (chargeparklaw30_BidsUnshifted.l0 kj8 l0 l1 a2 true (t214.set ((Int.tmod a4 (l0.length : Int)) : Int).toNat ((rd_L1 t214 (Int.tmod a4 (l0.length : Int))).set ((Int.tmod a3 ((rd_L1 t214 (Int.tmod a4 (l0.length : Int))).length : Int)) : Int).toNat a5)) 0) else (none)) else (none))) else (none)) else (none)))))) = some r := by rw [if_neg (show ¬ (false = true) by decide)] at H; exact H
        clear H
        have H := H1
        clear H1
        by_cases c18 : (l0.length : Int) = 0
        · rw [if_pos c18] at H
          exact absurd H (by simp)
        · rw [if_neg c18] at H
          have c18b0 : ((l0.length : Int) == 0) = false := beq_eq_false_iff_ne.mpr c18
          have c18b1 : ((l0.length : Int) != 0) = true := bne_iff_ne.mpr c18
          have c18b2 : ¬ (l0 = []) := fun h_ => c18 (by rw [h_]; rfl)
          replace H := Option.bind_eq_some_iff.mp H
          obtain ⟨t213, A190, H⟩ := H
          replace H : (if t213 = true then (some true) else ((chargeparkref30_Copy.f kj8 l0).bind fun t214 => (if 0 ≤ (Int.tmod a4 (l0.length : Int)) then (if (Int.tmod a4 (l0.length : Int)) < (t214.length : Int) then (if ((rd_L1 t214 (Int.tmod a4 (l0.length : Int))).length : Int) = 0 then (none) else (if 0 ≤ (Int.tmod a3 ((rd_L1 t214 (Int.tmod a4 (l0.length : Int))).length : Int)) then (if (Int.tmod a3 ((rd_L1 t214 (Int.tmod a4 (l0.length : Int))).length : Int)) < ((rd_L1 t214 (Int.tmod a4 (l0.length : Int))).length : Int) then (chargeparklaw30_BidsUnshifted.l0 kj8 l0 l1 a2 true (t214.set ((Int.tmod a4 (l0.length : Int)) : Int).toNat ((rd_L1 t214 (Int.tmod a4 (l0.length : Int))).set ((Int.tmod a3 ((rd_L1 t214 (Int.tmod a4 (l0.length : Int))).length : Int)) : Int).toNat a5)) 0) else (none)) else (none))) else (none)) else (none)))) = some r := H
          have A19 := Aside0.mk A190
          clear A190
          by_cases c20 : t213 = true
          · subst c20
            have H1 : (some true) = some r := by first | (rw [if_pos rfl] at H; exact H) | (rw [if_pos trivial] at H; exact H)
            clear H
            have H := H1
            clear H1
            obtain rfl := Option.some.inj H
            simp only [Option.some.injEq, Prod.mk.injEq] at H
            obtain ⟨rfl⟩ := H
            go_wp2_with (first | ((with_reducible refine gate_callee (f := 16) rfl ?_); refine goesL_ (some 62) rfl rfl Try.func16 (by kernel_rfl) rfl #[.slice A1 l1.length c1, .int .i64 (Int.tmod a4 (l0.length : Int)), .int .i64 a2] rfl (by (try simp only [List.map_toArray, List.map_cons, List.map_nil]); first | done | rfl | (simp only [List.length_drop, List.length_take]; rfl)) ?_; (with_reducible refine (chargeparklaw30_counts.calls kj8 _ _ l1 (Int.tmod a4 (l0.length : Int)) a2 true _ ?side1 ?side2 A19.out).mono ?_); (case side1 => repeat (first | exact (Kd.C_below HR1.out HB.out) | (with_reducible refine Kd.C_alloc ?_ _) | (with_reducible refine Kd.C_drewN ?_ _) | (with_reducible refine Kd.C_drew ?_))); (case side2 => exact HC1.out); rintro e w' ⟨rfl, ⟨nd, rfl⟩⟩; refine ⟨_, rfl, ?_⟩))
            go_ret
            exact ⟨by first | rfl | (simp [errW_none, errW_some] <;> rfl) | (simp [*, errW_none, errW_some] <;> rfl), by repeat (first | (with_reducible first | exact HB.out | apply below_alloc | apply pw_below_drewN | apply below_drew1) | exact HB.out)⟩
          · replace c20 := Bool.eq_false_iff.mpr c20
            subst c20
            have H1 : ((chargeparkref30_Copy.f kj8 l0).bind fun t214 => (if 0 ≤ (Int.tmod a4 (l0.length : Int)) then (if (Int.tmod a4 (l0.length : Int)) < (t214.length : Int) then (if ((rd_L1 t214 (Int.tmod a4 (l0.length : Int))).length : Int) = 0 then (none) else (if 0 ≤ (Int.tmod a3 ((rd_L1 t214 (Int.tmod a4 (l0.length : Int))).length : Int)) then (if (Int.tmod a3 ((rd_L1 t214 (Int.tmod a4 (l0.length : Int))).length : Int)) < ((rd_L1 t214 (Int.tmod a4 (l0.length : Int))).length : Int) then (chargeparklaw30_BidsUnshifted.l0 kj8 l0 l1 a2 true (t214.set ((Int.tmod a4 (l0.length : Int)) : Int).toNat ((rd_L1 t214 (Int.tmod a4 (l0.length : Int))).set ((Int.tmod a3 ((rd_L1 t214 (Int.tmod a4 (l0.length : Int))).length : Int)) : Int).toNat a5)) 0) else (none)) else (none))) else (none)) else (none))) = some r := by rw [if_neg (show ¬ (false = true) by decide)] at H; exact H
            clear H
            have H := H1
            clear H1
            replace H := Option.bind_eq_some_iff.mp H
            obtain ⟨t214, A210, H⟩ := H
            replace H : (if 0 ≤ (Int.tmod a4 (l0.length : Int)) then (if (Int.tmod a4 (l0.length : Int)) < (t214.length : Int) then (if ((rd_L1 t214 (Int.tmod a4 (l0.length : Int))).length : Int) = 0 then (none) else (if 0 ≤ (Int.tmod a3 ((rd_L1 t214 (Int.tmod a4 (l0.length : Int))).length : Int)) then (if (Int.tmod a3 ((rd_L1 t214 (Int.tmod a4 (l0.length : Int))).length : Int)) < ((rd_L1 t214 (Int.tmod a4 (l0.length : Int))).length : Int) then (chargeparklaw30_BidsUnshifted.l0 kj8 l0 l1 a2 true (t214.set ((Int.tmod a4 (l0.length : Int)) : Int).toNat ((rd_L1 t214 (Int.tmod a4 (l0.length : Int))).set ((Int.tmod a3 ((rd_L1 t214 (Int.tmod a4 (l0.length : Int))).length : Int)) : Int).toNat a5)) 0) else (none)) else (none))) else (none)) else (none)) = some r := H
            have A21 := Aside0.mk A210
            clear A210
            obtain ⟨ji22, hji22⟩ : ∃ j_ : Int, (Int.tmod a4 (l0.length : Int)) = j_ := ⟨_, rfl⟩
            replace H : (if 0 ≤ (ji22) then (if (ji22) < (t214.length : Int) then (if ((rd_L1 t214 (ji22)).length : Int) = 0 then (none) else (if 0 ≤ (Int.tmod a3 ((rd_L1 t214 (ji22)).length : Int)) then (if (Int.tmod a3 ((rd_L1 t214 (ji22)).length : Int)) < ((rd_L1 t214 (ji22)).length : Int) then (chargeparklaw30_BidsUnshifted.l0 kj8 l0 l1 a2 true (t214.set ((ji22) : Int).toNat ((rd_L1 t214 (ji22)).set ((Int.tmod a3 ((rd_L1 t214 (ji22)).length : Int)) : Int).toNat a5)) 0) else (none)) else (none))) else (none)) else (none)) = some r := by first | (rw [hji22] at H; exact H) | (simp only [hji22] at H ⊢; exact H)
            (try rw [hji22] at A19)
            (try rw [hji22] at A21)
            by_cases c23 : 0 ≤ (ji22)
            · rw [if_pos c23] at H
              have c23b0 : decide (0 ≤ (ji22)) = true := decide_eq_true c23
              clear c23
              by_cases c24 : (ji22) < (t214.length : Int)
              · rw [if_pos c24] at H
                have c24b0 : decide ((ji22) < (t214.length : Int)) = true := decide_eq_true c24
                clear c24
                by_cases c25 : ((rd_L1 t214 (ji22)).length : Int) = 0
                · rw [if_pos c25] at H
                  exact absurd H (by simp)
                · rw [if_neg c25] at H
                  have c25b0 : (((rd_L1 t214 (ji22)).length : Int) == 0) = false := beq_eq_false_iff_ne.mpr c25
                  have c25b1 : (((rd_L1 t214 (ji22)).length : Int) != 0) = true := bne_iff_ne.mpr c25
                  have c25b2 : ¬ ((rd_L1 t214 (ji22)) = []) := fun h_ => c25 (by rw [h_]; rfl)
                  obtain ⟨ji26, hji26⟩ : ∃ j_ : Int, (Int.tmod a3 ((rd_L1 t214 (ji22)).length : Int)) = j_ := ⟨_, rfl⟩
                  replace H : (if 0 ≤ (ji26) then (if (ji26) < ((rd_L1 t214 (ji22)).length : Int) then (chargeparklaw30_BidsUnshifted.l0 kj8 l0 l1 a2 true (t214.set ((ji22) : Int).toNat ((rd_L1 t214 (ji22)).set ((ji26) : Int).toNat a5)) 0) else (none)) else (none)) = some r := by first | (rw [hji26] at H; exact H) | (simp only [hji26] at H ⊢; exact H)
                  (try rw [hji26] at A19)
                  (try rw [hji26] at A21)
                  by_cases c27 : 0 ≤ (ji26)
                  · rw [if_pos c27] at H
                    have c27b0 : decide (0 ≤ (ji26)) = true := decide_eq_true c27
                    clear c27
                    by_cases c28 : (ji26) < ((rd_L1 t214 (ji22)).length : Int)
                    · rw [if_pos c28] at H
                      have c28b0 : decide ((ji26) < ((rd_L1 t214 (ji22)).length : Int)) = true := decide_eq_true c28
                      clear c28
                      obtain ⟨y219, hy219⟩ : ∃ y_ : List Int, y_ = ((rd_L1 t214 (ji22)).set ((ji26) : Int).toNat a5) := ⟨_, rfl⟩
                      replace H : (chargeparklaw30_BidsUnshifted.l0 kj8 l0 l1 a2 true (t214.set ((ji22) : Int).toNat y219) 0) = some r := by first | (rw [hy219]; with_reducible exact H) | (have H2_ := (Option.bind_some _ _).symm.trans H; rw [hy219]; with_reducible exact H2_) | (have H2_ := (Option.bind_some _ _).symm.trans H; with_reducible exact H2_) | with_reducible exact H | (rw [hy219]; exact H) | exact H
                      have Ny219 := Aside0.mk hy219
                      clear hy219
                      obtain ⟨y221, hy221⟩ : ∃ y_ : List (List Int), y_ = (t214.set ((ji22) : Int).toNat y219) := ⟨_, rfl⟩
                      replace H : (chargeparklaw30_BidsUnshifted.l0 kj8 l0 l1 a2 true y221 0) = some r := by first | (rw [hy221]; with_reducible exact H) | (have H2_ := (Option.bind_some _ _).symm.trans H; rw [hy221]; with_reducible exact H2_) | (have H2_ := (Option.bind_some _ _).symm.trans H; with_reducible exact H2_) | with_reducible exact H | (rw [hy221]; exact H) | exact H
                      have Ny221 := Aside0.mk hy221
                      clear hy221
                      have H' := Aside0.mk H
                      clear H
                      try go_wp2_with (first | ((with_reducible refine gate_callee (f := 16) rfl ?_); refine goesL_ (some 62) rfl rfl Try.func16 (by kernel_rfl) rfl #[.slice A1 l1.length c1, .int .i64 ji22, .int .i64 a2] rfl (by (try simp only [List.map_toArray, List.map_cons, List.map_nil]); first | done | (simp only [hji22]; rfl) | rfl | (simp only [List.length_drop, List.length_take]; rfl)) ?_; (with_reducible refine (chargeparklaw30_counts.calls kj8 _ _ l1 ji22 a2 false _ ?side1 ?side2 A19.out).mono ?_); (case side1 => repeat (first | exact (Kd.C_below HR1.out HB.out) | (with_reducible refine Kd.C_alloc ?_ _) | (with_reducible refine Kd.C_drewN ?_ _) | (with_reducible refine Kd.C_drew ?_))); (case side2 => exact HC1.out); rintro e w' ⟨rfl, ⟨nd, rfl⟩⟩; refine ⟨_, rfl, ?_⟩; (try (rw [drewN_self wc]; generalize hq_ : World.drewN wc _ = wc; have n0_ : Aside0 (Below w.heap.size w wc) := ⟨by rw [← hq_]; exact (by repeat (first | (with_reducible first | exact HB.out | apply below_alloc | apply pw_below_drewN | apply below_drew1) | exact HB.out))⟩; clear HB hq_; have HB := n0_; clear n0_))) | ((with_reducible refine gate_callee (f := 17) rfl ?_); refine goesL_ (some 65) rfl rfl Try.func17 (by kernel_rfl) rfl #[.slice A0 l0.length c0] rfl (by (try simp only [List.map_toArray, List.map_cons, List.map_nil]); first | done | rfl | (simp only [List.length_drop, List.length_take]; rfl)) ?_; (with_reducible refine (chargeparkref30_Copy.calls kj8 _ _ l0 t214 _ ?side1 ?side2 A21.out).mono ?_); (case side1 => repeat (first | exact (Kd.C_below HR0.out HB.out) | (with_reducible refine Kd.C_alloc ?_ _) | (with_reducible refine Kd.C_drewN ?_ _) | (with_reducible refine Kd.C_drew ?_))); (case side2 => exact HC0.out); rintro e w30 ⟨v215, rfl, ho0, hb⟩; refine ⟨_, rfl, ?_⟩; have n0_ := Aside0.mk (Kd.S_lower ho0 (below_size (by repeat (first | (with_reducible first | exact HB.out | apply below_alloc | apply pw_below_drewN | apply below_drew1) | exact HB.out)))); have n1_ := Aside0.mk (below_step (by repeat (first | (with_reducible first | exact HB.out | apply below_alloc | apply pw_below_drewN | apply below_drew1) | exact HB.out)) hb); clear HB; have HO216 := n0_; have HB := n1_; clear n0_ n1_; (try clear hb); (try clear hb2); (try clear hk); (try clear hi); (try clear ho0)))
                      have n0_ := Aside0.mk (Kd.S_drew HO216.out)
                      have n1_ := Aside0.mk (below_drew1 HB.out)
                      clear HO216
                      clear HB
                      have HO216 := n0_
                      have HB := n1_
                      clear n0_ n1_
                      obtain ⟨Ao32, co32, eo32⟩ := Kd.S_slice HO216.out
                      (first | subst eo32 | (injection eo32 with f1_ f2_ f3_; have f4_ := f1_.symm; have f5_ := f3_.symm; clear f1_ f2_ f3_; subst f4_; subst f5_))
                      have p217 : 0 ≤ ((ji22) : Int) := of_decide_eq_true (by first | (with_reducible assumption) | assumption)
                      have q217 : (ji22) < (t214.length : Int) := of_decide_eq_true (by first | (with_reducible assumption) | assumption)
                      obtain ⟨ad217, A217_0, c217_0, e217, hx217_0, hl217_0, hi217_0⟩ := at_L1 (Kd.S_reads' HO216.out).2.2 (ji22) p217 q217
                      cases e217
                      obtain ⟨ce217, hce217, hMe217, hcc217⟩ := Kd.S_get HO216.out [] (ji22) p217 (by first | exact q217 | exact of_decide_eq_true (by first | (with_reducible assumption) | assumption) | (have e_ := (Kd.S_reads' HO216.out).1; omega))
                      obtain ⟨ve217_0, rfl, ge217_0⟩ := hMe217
                      have hv217_0 := hcc217 0 _ rfl
                      rw [Nat.add_zero, show ((Kd.slice 3 (Kd.int .i64))).sz = 1 from rfl, Nat.mul_one] at hv217_0
                      replace hv217_0 := Option.some.inj (hv217_0.symm.trans hx217_0)
                      rw [hv217_0] at ge217_0
                      have HL217_0 := Aside0.mk (show Kd.R (Kd.int .i64) 3 _ _ _ _ (rd_L1 t214 (ji22)) from ge217_0)
                      clear hv217_0 ge217_0
                      have HX217_0 := Aside0.mk hx217_0
                      clear hcc217 hce217
                      have HR217_0 := Aside0.mk hi217_0
                      have HC217_0 := Aside0.mk hl217_0
                      clear hi217_0 hl217_0
                      replace p217 := eq_true p217
                      replace q217 := eq_true q217
                      have p218 : 0 ≤ ((ji22) : Int) := of_decide_eq_true (by first | (with_reducible assumption) | assumption)
                      have q218 : (ji22) < (t214.length : Int) := of_decide_eq_true (by first | (with_reducible assumption) | assumption)
                      obtain ⟨ad218, A218_0, c218_0, e218, hx218_0, hl218_0, hi218_0⟩ := at_L1 (Kd.S_reads' HO216.out).2.2 (ji22) p218 q218
                      obtain rfl : ad217 = ad218 := (by injection e218)
                      obtain ⟨ce218, hce218, hMe218, hcc218⟩ := Kd.S_get HO216.out [] (ji22) p218 (by first | exact q218 | exact of_decide_eq_true (by first | (with_reducible assumption) | assumption) | (have e_ := (Kd.S_reads' HO216.out).1; omega))
                      obtain ⟨ve218_0, rfl, ge218_0⟩ := hMe218
                      have hv218_0 := hcc218 0 _ rfl
                      rw [Nat.add_zero, show ((Kd.slice 3 (Kd.int .i64))).sz = 1 from rfl, Nat.mul_one] at hv218_0
                      replace hv218_0 := Option.some.inj (hv218_0.symm.trans hx218_0)
                      rw [hv218_0] at ge218_0
                      have HL218_0 := Aside0.mk (show Kd.R (Kd.int .i64) 3 _ _ _ _ (rd_L1 t214 (ji22)) from ge218_0)
                      clear hv218_0 ge218_0
                      have HX218_0 := Aside0.mk hx218_0
                      clear hcc218 hce218
                      have HR218_0 := Aside0.mk hi218_0
                      have HC218_0 := Aside0.mk hl218_0
                      clear hi218_0 hl218_0
                      replace p218 := eq_true p218
                      replace q218 := eq_true q218
                      have ea_ := Option.some.inj (hx217_0.symm.trans hx218_0)
                      injection ea_ with ea_ en_ ec_
                      subst ea_
                      subst ec_
                      clear en_
                      have p29 : 0 ≤ ((ji26) : Int) := of_decide_eq_true (by first | (with_reducible assumption) | assumption)
                      have q29 : ((ji26) : Int) < (((rd_L1 t214 (ji22)).length : Int) : Int) := of_decide_eq_true (by first | (with_reducible assumption) | assumption)
                      obtain ⟨go29, co29, eo29, gb29, gl29, cl29, HG29⟩ := Kd.R_form HL217_0.out (by omega)
                      (first | cases eo29 | (injection eo29 with ea_ en_ ec_; (first | subst ea_ | (injection ea_ with ea_; subst ea_)); subst ec_; clear en_))
                      have GB29 := Aside0.mk gb29
                      have GG29 := Aside0.mk HG29
                      clear gb29 gl29 HG29
                      obtain ⟨hx29_0, hf29_0⟩ := Kd.R_celln 0 HL217_0.out ((ji26) : Int) p29 q29
                      replace p29 := eq_true p29
                      replace q29 := eq_true q29
                      have hq33 : ((ji22) : Int) < (t214.length : Int) := (by have h_ : ((ji22) : Int) < ((t214.length : Int) : Int) := of_decide_eq_true (by first | (with_reducible assumption) | assumption); first | exact h_ | (have e_ := (Kd.S_reads' HO216.out).1; omega) | simpa only [List.length_set, List.length_set] using h_)
                      obtain ⟨oki33, ce33, hcl33, hM33, hcc33, hok33, hbk33⟩ := Kd.S_borrow HO216.out [] ((ji22) : Int) (of_decide_eq_true (by first | (with_reducible assumption) | assumption)) hq33
                      obtain ⟨ve33_0, rfl, ge33_0⟩ := hM33
                      have hv33 := hcc33 0 _ rfl
                      rw [Nat.add_zero, show ((Kd.slice 3 (Kd.int .i64))).sz = 1 from rfl, Nat.mul_one] at hv33
                      replace hv33 := Option.some.inj (hv33.symm.trans HX217_0.out)
                      subst hv33
                      clear hcc33 hcl33
                      replace ge33_0 := (show Kd.R (Kd.int .i64) 3 _ _ _ _ (rd_L1 t214 (ji22)) from ge33_0)
                      have HP33 := Kd.R_putg ge33_0 ((ji26) : Int) a5
                      rw [← Ny219.out] at HP33
                      have HS33 := hbk33 HP33.2 (fun k_ e_ => by injection e_ with e_; subst e_; exact ge33_0.1 _ rfl) (x' := y219) (Kd.M_row HP33.1)
                      rw [← Ny221.out] at HS33
                      have HQ33 := Aside0.mk HS33
                      clear HP33 HS33 hbk33 hok33
                      refine start_ (n := 14) (S := fun w' => w'.cell? (ad217.add ((ji22)).toNat) = some (.slice (some ⟨go29, 0, none⟩) (rd_L1 t214 (ji22)).length c217_0) ∧ w'.cell? (ad217.add ((ji22)).toNat) = some (.slice (some ⟨go29, 0, none⟩) (rd_L1 t214 (ji22)).length c217_0)) (ds := [13]) #[false, false, false, false, false, false, false, false, false, false, false, false, false, false] (by kernel_rfl) rfl rfl ⟨hx217_0, hx218_0⟩ (fun hHeld => ?_); refine with_tabW chargeparklaw30_BidsUnshifted.tab9 chargeparklaw30_BidsUnshifted.bits9 (fun HT_ HW_ => ?_)
                      generalize w30.drew = w31 at HO216 HB GG29 HL217_0 HL218_0 HQ33 HR217_0 HR218_0 HX217_0 HX218_0 hf29_0 hx217_0 hx218_0 hx29_0 hHeld ⊢
                      refine pure_ (i := 0) (N := some 66) (v := ?_) (a' := ?_) #[true, false, false, false, false, false, false, false, false, false, false, false, false, false] rfl rfl (any_of HT_.out (by kernel_rfl)) (fun _ _ _ h => h) (Or.inl ⟨by rfl, ?_⟩) ?_ ?_
                      rotate_left
                      · intro w'
                        go_simp
                        with_reducible rfl
                      rotate_left
                      · simp only [Act.put, List.setIfInBounds_toArray, List.set_cons_zero, List.set_cons_succ, i64_w, i32_w]
                        rfl
                      refine pure_ (i := 1) (N := some 67) (v := ?_) (a' := ?_) #[true, true, false, false, false, false, false, false, false, false, false, false, false, false] rfl rfl (any_of HT_.out (by kernel_rfl)) (fun _ _ _ h => h) (Or.inl ⟨by rfl, ?_⟩) ?_ ?_
                      rotate_left
                      · intro w'
                        go_simp
                        with_reducible rfl
                      rotate_left
                      · simp only [Act.put, List.setIfInBounds_toArray, List.set_cons_zero, List.set_cons_succ, i64_w, i32_w]
                        rfl
                      refine pure_ (i := 2) (N := some 68) (v := ?_) (a' := ?_) #[true, true, true, false, false, false, false, false, false, false, false, false, false, false] rfl rfl (any_of HT_.out (by kernel_rfl)) (fun _ _ _ h => h) (Or.inl ⟨by rfl, ?_⟩) ?_ ?_
                      rotate_left
                      · intro w'
                        go_simp
                        with_reducible rfl
                      rotate_left
                      · simp only [Act.put, List.setIfInBounds_toArray, List.set_cons_zero, List.set_cons_succ, i64_w, i32_w]
                        rfl
                      refine pure_ (i := 4) (N := some 70) (v := ?_) (a' := ?_) #[true, true, true, false, true, false, false, false, false, false, false, false, false, false] rfl rfl (any_of HT_.out (by kernel_rfl)) (fun _ _ _ h => h) (Or.inl ⟨by rfl, ?_⟩) ?_ ?_
                      rotate_left
                      · intro w'
                        go_simp
                        with_reducible rfl
                      rotate_left
                      · simp only [Act.put, List.setIfInBounds_toArray, List.set_cons_zero, List.set_cons_succ, i64_w, i32_w]
                        rfl
                      refine pure_ (i := 5) (N := some 71) (v := ?_) (a' := ?_) #[true, true, true, false, true, true, false, false, false, false, false, false, false, false] rfl rfl (any_of HT_.out (by kernel_rfl)) (fun _ _ _ h => h) (Or.inl ⟨by rfl, ?_⟩) ?_ ?_
                      rotate_left
                      · intro w'
                        go_simp
                        with_reducible rfl
                      rotate_left
                      · simp only [Act.put, List.setIfInBounds_toArray, List.set_cons_zero, List.set_cons_succ, i64_w, i32_w]
                        rfl
                      refine pure_ (i := 6) (N := some 72) (v := ?_) (a' := ?_) #[true, true, true, false, true, true, true, false, false, false, false, false, false, false] rfl rfl (any_of HT_.out (by kernel_rfl)) (fun _ _ _ h => h) (Or.inl ⟨by rfl, ?_⟩) ?_ ?_
                      rotate_left
                      · intro w'
                        go_simp
                        with_reducible rfl
                      rotate_left
                      · simp only [Act.put, List.setIfInBounds_toArray, List.set_cons_zero, List.set_cons_succ, i64_w, i32_w]
                        rfl
                      refine pure_ (i := 7) (N := some 73) (v := ?_) (a' := ?_) #[true, true, true, false, true, true, true, true, false, false, false, false, false, false] rfl rfl (any_of HT_.out (by kernel_rfl)) (fun _ _ _ h => h) (Or.inl ⟨by rfl, ?_⟩) ?_ ?_
                      rotate_left
                      · intro w'
                        go_simp
                        with_reducible rfl
                      rotate_left
                      · simp only [Act.put, List.setIfInBounds_toArray, List.set_cons_zero, List.set_cons_succ, i64_w, i32_w]
                        rfl
                      refine pure_ (i := 11) (N := some 77) (v := ?_) (a' := ?_) #[true, true, true, false, true, true, true, true, false, false, false, true, false, false] rfl rfl (any_of HT_.out (by kernel_rfl)) (fun _ _ _ h => h) (Or.inl ⟨by rfl, ?_⟩) ?_ ?_
                      rotate_left
                      · intro w'
                        go_simp
                        with_reducible rfl
                      rotate_left
                      · simp only [Act.put, List.setIfInBounds_toArray, List.set_cons_zero, List.set_cons_succ, i64_w, i32_w]
                        rfl
                      refine take_ (i := 3) (N := some 69) (v := ?_) (a' := ?_) #[true, true, true, true, true, true, true, true, false, false, false, true, false, false] rfl rfl (take_ofW HT_.out HW_.out (by kernel_rfl)) (fun _ _ _ h => h) (Or.inl ⟨by rfl, ?_⟩) hHeld ?_ ?_
                      rotate_left
                      · rintro w' ⟨s0, s1⟩
                        go_simp
                        with_reducible rfl
                      rotate_left
                      · simp only [Act.put, List.setIfInBounds_toArray, List.set_cons_zero, List.set_cons_succ, i64_w, i32_w]
                        rfl
                      refine take_ (i := 8) (N := some 74) (v := ?_) (a' := ?_) #[true, true, true, true, true, true, true, true, true, false, false, true, false, false] rfl rfl (take_ofW HT_.out HW_.out (by kernel_rfl)) (fun _ _ _ h => h) (Or.inl ⟨by rfl, ?_⟩) hHeld ?_ ?_
                      rotate_left
                      · rintro w' ⟨s0, s1⟩
                        go_simp
                        with_reducible rfl
                      rotate_left
                      · simp only [Act.put, List.setIfInBounds_toArray, List.set_cons_zero, List.set_cons_succ, i64_w, i32_w]
                        rfl
                      refine pure_ (i := 9) (N := some 75) (v := ?_) (a' := ?_) #[true, true, true, true, true, true, true, true, true, true, false, true, false, false] rfl rfl (any_of HT_.out (by kernel_rfl)) (fun _ _ _ h => h) (Or.inl ⟨by rfl, ?_⟩) ?_ ?_
                      rotate_left
                      · intro w'
                        go_simp
                        with_reducible rfl
                      rotate_left
                      · simp only [Act.put, List.setIfInBounds_toArray, List.set_cons_zero, List.set_cons_succ, i64_w, i32_w]
                        rfl
                      refine pure_ (i := 10) (N := some 76) (v := ?_) (a' := ?_) #[true, true, true, true, true, true, true, true, true, true, true, true, false, false] rfl rfl (any_of HT_.out (by kernel_rfl)) (fun _ _ _ h => h) (Or.inl ⟨by rfl, ?_⟩) ?_ ?_
                      rotate_left
                      · intro w'
                        go_simp
                        with_reducible rfl
                      rotate_left
                      · simp only [Act.put, List.setIfInBounds_toArray, List.set_cons_zero, List.set_cons_succ, i64_w, i32_w]
                        rfl
                      refine pure_ (i := 12) (N := some 78) (v := ?_) (a' := ?_) #[true, true, true, true, true, true, true, true, true, true, true, true, true, false] rfl rfl (any_of HT_.out (by kernel_rfl)) (fun _ _ _ h => h) (Or.inl ⟨by rfl, ?_⟩) ?_ ?_
                      rotate_left
                      · intro w'
                        go_simp
                        with_reducible rfl
                      rotate_left
                      · simp only [Act.put, List.setIfInBounds_toArray, List.set_cons_zero, List.set_cons_succ, i64_w, i32_w]
                        rfl
                      refine last_ (i := 13) (N := none) #[true, true, true, true, true, true, true, true, true, true, true, true, true, true] rfl rfl (one_of HT_.out (by kernel_rfl)) (by decide) (fun K hK => ?_)
                      refine skip_ (w1 := ?_) (by rfl) rfl ?_ ?_
                      rotate_left
                      · go_simp
                        rfl
                      refine hK.out _ _ ?_
                      clear hK K
                      refine done_ (done_of HT_.out (by kernel_rfl)) ?_
                      try go_wp2
                      go_loopg [13, 17] kj8 (fun kq v13 v17 w' => ∃ (x13_2 : Bool) (x17_2 : Int), v13 = .bool x13_2 ∧ v17 = .int .i64 x17_2 ∧ Aside0 (chargeparklaw30_BidsUnshifted.l0 kq l0 l1 a2 x13_2 y221 x17_2 = some r) ∧ Aside0 (kq ≤ kj8) ∧ Aside0 (Kd.S (Kd.slice 3 (Kd.int .i64)) 33 w' w.heap.size (fun _ => True) (.slice (some ad217) t214.length co32) y221) ∧ Aside0 (Below w.heap.size w w'))
                      case atStart => exact ⟨(true), (0), (by first | rfl | (simp; done) | (simp [*]; done)), (by first | rfl | (simp; done) | (simp [*]; done)), H', ⟨Nat.le_refl _⟩, ⟨by (with_reducible repeat (first | apply Kd.S_alloc | apply Kd.S_drewN | apply Kd.S_drew)); exact HQ33.out⟩, ⟨by repeat (first | (with_reducible first | exact HB.out | apply below_alloc | apply pw_below_drewN | apply below_drew1 | refine below_set ?_ GB29.out) | exact HB.out)⟩⟩
                      case round =>
                        clear H'
                        try clear c1
                        try clear c2
                        try clear p2
                        try clear q2
                        try clear hx2
                        try clear c3
                        try clear q3
                        try clear c4
                        try clear c9
                        try clear c11
                        try clear c12
                        try clear c12b0
                        try clear c13
                        try clear c13b0
                        try clear c14
                        try clear c14b0
                        try clear c15
                        try clear c15b0
                        try clear c16
                        try clear c16b0
                        try clear c17
                        try clear c18
                        try clear c18b0
                        try clear c18b1
                        try clear c18b2
                        try clear c20
                        try clear c21
                        try clear p21
                        try clear q21
                        try clear hx21
                        try clear c23
                        try clear c23b0
                        try clear c24
                        try clear c24b0
                        try clear c25
                        try clear c25b0
                        try clear c25b1
                        try clear c25b2
                        try clear c27
                        try clear c27b0
                        try clear c28
                        try clear c28b0
                        try clear p29
                        try clear q29
                        try clear hx29
                        try clear hf29
                        try clear c33
                        try clear q33
                        try clear hx217_0
                        try clear hx218_0
                        try clear hx29_0
                        try clear p2
                        try clear p217
                        try clear p218
                        try clear p29
                        try clear q217
                        try clear q218
                        try clear q29
                        obtain ⟨x13_2, x17_2, rfl, rfl, HA, HK2, HO_16, HB⟩ := hrel
                        have hl16_2 := (Kd.S_reads' HO_16.out).1
                        rw [hl16_2] at HO_16
                        (try simp only [hl16_2])
                        cases gk with
                        | zero => exact absurd HA.out (by simp [chargeparklaw30_BidsUnshifted.l0])
                        | succ k2 =>
                          have H := HA.out
                          clear HA
                          simp only [chargeparklaw30_BidsUnshifted.l0] at H
                          by_cases c35 : 0 < (l0.length : Int)
                          · rw [if_pos c35] at H
                            have c35b0 : decide (0 < (l0.length : Int)) = true := decide_eq_true c35
                            have c35b1 : decide (0 < l0.length) = true := decide_eq_true (by omega)
                            clear c35
                            by_cases c36 : x17_2 < ((rd_L1 l0 0).length : Int)
                            · rw [if_pos c36] at H
                              have c36b0 : decide (x17_2 < ((rd_L1 l0 0).length : Int)) = true := decide_eq_true c36
                              clear c36
                              replace H := Option.bind_eq_some_iff.mp H
                              obtain ⟨⟨t223, t224⟩, A370, H⟩ := H
                              replace H : ((bids_Baseline.f k2 y221 l1 a2 x17_2).bind fun bt225 => (if x13_2 = true then (if t223 = bt225.1 then (chargeparklaw30_BidsUnshifted.l0 k2 l0 l1 a2 (t224 == bt225.2) y221 (wrap64 (x17_2 + 1))) else (chargeparklaw30_BidsUnshifted.l0 k2 l0 l1 a2 false y221 (wrap64 (x17_2 + 1)))) else (chargeparklaw30_BidsUnshifted.l0 k2 l0 l1 a2 false y221 (wrap64 (x17_2 + 1))))) = some r := H
                              have A37 := Aside0.mk A370
                              clear A370
                              replace H := Option.bind_eq_some_iff.mp H
                              obtain ⟨⟨t225, t226⟩, A380, H⟩ := H
                              replace H : (if x13_2 = true then (if t223 = t225 then (chargeparklaw30_BidsUnshifted.l0 k2 l0 l1 a2 (t224 == t226) y221 (wrap64 (x17_2 + 1))) else (chargeparklaw30_BidsUnshifted.l0 k2 l0 l1 a2 false y221 (wrap64 (x17_2 + 1)))) else (chargeparklaw30_BidsUnshifted.l0 k2 l0 l1 a2 false y221 (wrap64 (x17_2 + 1)))) = some r := H
                              have A38 := Aside0.mk A380
                              clear A380
                              by_cases c39 : x13_2 = true
                              · subst c39
                                have H1 : (if t223 = t225 then (chargeparklaw30_BidsUnshifted.l0 k2 l0 l1 a2 (t224 == t226) y221 (wrap64 (x17_2 + 1))) else (chargeparklaw30_BidsUnshifted.l0 k2 l0 l1 a2 false y221 (wrap64 (x17_2 + 1)))) = some r := by first | (rw [if_pos rfl] at H; exact H) | (rw [if_pos trivial] at H; exact H)
                                clear H
                                have H := H1
                                clear H1
                                by_cases c40 : t223 = t225
                                · rw [if_pos c40] at H
                                  have c40b0 : (t223 == t225) = true := beq_iff_eq.mpr c40
                                  have c40b1 : (t223 != t225) = false := bne_eq_false_iff_eq.mpr c40
                                  clear c40
                                  have H' := Aside0.mk H
                                  clear H
                                  have p222 : 0 ≤ (0 : Int) := (by omega)
                                  have q222 : 0 < (l0.length : Int) := of_decide_eq_true (by first | (with_reducible assumption) | assumption)
                                  obtain ⟨ad222, A222_0, c222_0, e222, hx222_0, hl222_0, hi222_0⟩ := at_L1 HR0.out 0 p222 q222
                                  cases e222
                                  have qi222 : (0 < l0.length) = True := eq_true (by omega)
                                  (try rw [show ((0 : Int)).toNat = 0 from rfl] at hx222_0)
                                  (try rw [Addr.add_zero'] at hx222_0)
                                  replace hx222_0 := (HB.out.cell (World.block_lt_of_cell? w _ hx222_0)).trans hx222_0
                                  have HR222_0 := Aside0.mk hi222_0
                                  have HC222_0 := Aside0.mk hl222_0
                                  clear hi222_0 hl222_0
                                  replace p222 := eq_true p222
                                  replace q222 := eq_true q222
                                  go_wp2_with (first | ((with_reducible refine gate_callee (f := 11) rfl ?_); refine goesL_ (some 92) rfl rfl Try.func11 (by kernel_rfl) rfl #[.slice (some ad222) l0.length c0, .slice A1 l1.length c1, .int .i64 a2, .int .i64 x17_2] rfl (by (try simp only [List.map_toArray, List.map_cons, List.map_nil]); first | done | rfl | (simp only [List.length_drop, List.length_take]; rfl)) ?_; (with_reducible refine (bids_Baseline.calls k2 _ _ l0 _ _ l1 a2 x17_2 t223 t224 _ ?side1 ?side2 ?side3 ?side4 A37.out).mono ?_); (case side1 => repeat (first | exact (Kd.C_below HR0.out HB.out) | (with_reducible refine Kd.C_alloc ?_ _) | (with_reducible refine Kd.C_drewN ?_ _) | (with_reducible refine Kd.C_drew ?_))); (case side2 => exact HC0.out); (case side3 => repeat (first | exact (Kd.C_below HR1.out HB.out) | (with_reducible refine Kd.C_alloc ?_ _) | (with_reducible refine Kd.C_drewN ?_ _) | (with_reducible refine Kd.C_drew ?_))); (case side4 => exact HC1.out); rintro e w41 ⟨rfl, hb⟩; refine ⟨_, rfl, ?_⟩; have n0_ := Aside0.mk (Kd.S_below (by (with_reducible repeat (first | apply Kd.S_alloc | apply Kd.S_drewN | apply Kd.S_drew)); exact HO_16.out) hb); have n1_ := Aside0.mk (below_step (by repeat (first | (with_reducible first | exact HB.out | apply below_alloc | apply pw_below_drewN | apply below_drew1) | exact HB.out)) hb); clear HO_16; clear HB; have HO_16 := n0_; have HB := n1_; clear n0_ n1_; (try clear hb); (try clear hb2); (try clear hk); (try clear hi)) | ((with_reducible refine gate_callee (f := 11) rfl ?_); refine goesL_ (some 100) rfl rfl Try.func11 (by kernel_rfl) rfl #[.slice (some ad217) y221.length co32, .slice A1 l1.length c1, .int .i64 a2, .int .i64 x17_2] rfl (by (try simp only [List.map_toArray, List.map_cons, List.map_nil]); first | done | rfl | (simp only [List.length_drop, List.length_take]; rfl)) ?_; (with_reducible refine (bids_Baseline.calls k2 _ _ y221 _ _ l1 a2 x17_2 t225 t226 _ ?side1 ?side2 ?side3 ?side4 A38.out).mono ?_); (case side1 => repeat (first | exact (Kd.S_reads' HO_16.out).2.2 | (with_reducible refine Kd.C_alloc ?_ _) | (with_reducible refine Kd.C_drewN ?_ _) | (with_reducible refine Kd.C_drew ?_))); (case side2 => exact (Kd.S_reads' HO_16.out).2.1); (case side3 => repeat (first | exact (Kd.C_below HR1.out HB.out) | (with_reducible refine Kd.C_alloc ?_ _) | (with_reducible refine Kd.C_drewN ?_ _) | (with_reducible refine Kd.C_drew ?_))); (case side4 => exact HC1.out); rintro e w42 ⟨rfl, hb⟩; refine ⟨_, rfl, ?_⟩; have n0_ := Aside0.mk (Kd.S_below (by (with_reducible repeat (first | apply Kd.S_alloc | apply Kd.S_drewN | apply Kd.S_drew)); exact HO_16.out) hb); have n1_ := Aside0.mk (below_step (by repeat (first | (with_reducible first | exact HB.out | apply below_alloc | apply pw_below_drewN | apply below_drew1) | exact HB.out)) hb); clear HO_16; clear HB; have HO_16 := n0_; have HB := n1_; clear n0_ n1_; (try clear hb); (try clear hb2); (try clear hk); (try clear hi)))
                                  (try simp only [← hl16_2])
                                  go_roundg k2
                                  case measure => have := HJ8.out; have := HK2.out; omega
                                  case rel => exact ⟨((t224 == t226)), (wrap64 (x17_2 + 1)), (by first | rfl | (simp; done) | (simp [*]; done)), (by first | rfl | (simp; done) | (simp [*]; done)), H', ⟨by have := HJ8.out; have := HK2.out; omega⟩, ⟨by (try simp only [hl16_2]); (with_reducible repeat (first | apply Kd.S_alloc | apply Kd.S_drewN | apply Kd.S_drew)); exact HO_16.out⟩, ⟨by repeat (first | (with_reducible first | exact HB.out | apply below_alloc | apply pw_below_drewN | apply below_drew1) | exact HB.out)⟩⟩
                                · rw [if_neg c40] at H
                                  have c40b0 : (t223 == t225) = false := beq_eq_false_iff_ne.mpr c40
                                  have c40b1 : (t223 != t225) = true := bne_iff_ne.mpr c40
                                  have H' := Aside0.mk H
                                  clear H
                                  have p222 : 0 ≤ (0 : Int) := (by omega)
                                  have q222 : 0 < (l0.length : Int) := of_decide_eq_true (by first | (with_reducible assumption) | assumption)
                                  obtain ⟨ad222, A222_0, c222_0, e222, hx222_0, hl222_0, hi222_0⟩ := at_L1 HR0.out 0 p222 q222
                                  cases e222
                                  have qi222 : (0 < l0.length) = True := eq_true (by omega)
                                  (try rw [show ((0 : Int)).toNat = 0 from rfl] at hx222_0)
                                  (try rw [Addr.add_zero'] at hx222_0)
                                  replace hx222_0 := (HB.out.cell (World.block_lt_of_cell? w _ hx222_0)).trans hx222_0
                                  have HR222_0 := Aside0.mk hi222_0
                                  have HC222_0 := Aside0.mk hl222_0
                                  clear hi222_0 hl222_0
                                  replace p222 := eq_true p222
                                  replace q222 := eq_true q222
                                  go_wp2_with (first | ((with_reducible refine gate_callee (f := 11) rfl ?_); refine goesL_ (some 92) rfl rfl Try.func11 (by kernel_rfl) rfl #[.slice (some ad222) l0.length c0, .slice A1 l1.length c1, .int .i64 a2, .int .i64 x17_2] rfl (by (try simp only [List.map_toArray, List.map_cons, List.map_nil]); first | done | rfl | (simp only [List.length_drop, List.length_take]; rfl)) ?_; (with_reducible refine (bids_Baseline.calls k2 _ _ l0 _ _ l1 a2 x17_2 t223 t224 _ ?side1 ?side2 ?side3 ?side4 A37.out).mono ?_); (case side1 => repeat (first | exact (Kd.C_below HR0.out HB.out) | (with_reducible refine Kd.C_alloc ?_ _) | (with_reducible refine Kd.C_drewN ?_ _) | (with_reducible refine Kd.C_drew ?_))); (case side2 => exact HC0.out); (case side3 => repeat (first | exact (Kd.C_below HR1.out HB.out) | (with_reducible refine Kd.C_alloc ?_ _) | (with_reducible refine Kd.C_drewN ?_ _) | (with_reducible refine Kd.C_drew ?_))); (case side4 => exact HC1.out); rintro e w43 ⟨rfl, hb⟩; refine ⟨_, rfl, ?_⟩; have n0_ := Aside0.mk (Kd.S_below (by (with_reducible repeat (first | apply Kd.S_alloc | apply Kd.S_drewN | apply Kd.S_drew)); exact HO_16.out) hb); have n1_ := Aside0.mk (below_step (by repeat (first | (with_reducible first | exact HB.out | apply below_alloc | apply pw_below_drewN | apply below_drew1) | exact HB.out)) hb); clear HO_16; clear HB; have HO_16 := n0_; have HB := n1_; clear n0_ n1_; (try clear hb); (try clear hb2); (try clear hk); (try clear hi)) | ((with_reducible refine gate_callee (f := 11) rfl ?_); refine goesL_ (some 100) rfl rfl Try.func11 (by kernel_rfl) rfl #[.slice (some ad217) y221.length co32, .slice A1 l1.length c1, .int .i64 a2, .int .i64 x17_2] rfl (by (try simp only [List.map_toArray, List.map_cons, List.map_nil]); first | done | rfl | (simp only [List.length_drop, List.length_take]; rfl)) ?_; (with_reducible refine (bids_Baseline.calls k2 _ _ y221 _ _ l1 a2 x17_2 t225 t226 _ ?side1 ?side2 ?side3 ?side4 A38.out).mono ?_); (case side1 => repeat (first | exact (Kd.S_reads' HO_16.out).2.2 | (with_reducible refine Kd.C_alloc ?_ _) | (with_reducible refine Kd.C_drewN ?_ _) | (with_reducible refine Kd.C_drew ?_))); (case side2 => exact (Kd.S_reads' HO_16.out).2.1); (case side3 => repeat (first | exact (Kd.C_below HR1.out HB.out) | (with_reducible refine Kd.C_alloc ?_ _) | (with_reducible refine Kd.C_drewN ?_ _) | (with_reducible refine Kd.C_drew ?_))); (case side4 => exact HC1.out); rintro e w44 ⟨rfl, hb⟩; refine ⟨_, rfl, ?_⟩; have n0_ := Aside0.mk (Kd.S_below (by (with_reducible repeat (first | apply Kd.S_alloc | apply Kd.S_drewN | apply Kd.S_drew)); exact HO_16.out) hb); have n1_ := Aside0.mk (below_step (by repeat (first | (with_reducible first | exact HB.out | apply below_alloc | apply pw_below_drewN | apply below_drew1) | exact HB.out)) hb); clear HO_16; clear HB; have HO_16 := n0_; have HB := n1_; clear n0_ n1_; (try clear hb); (try clear hb2); (try clear hk); (try clear hi)))
                                  (try simp only [← hl16_2])
                                  go_roundg k2
                                  case measure => have := HJ8.out; have := HK2.out; omega
                                  case rel => exact ⟨(false), (wrap64 (x17_2 + 1)), (by first | rfl | (simp; done) | (simp [*]; done)), (by first | rfl | (simp; done) | (simp [*]; done)), H', ⟨by have := HJ8.out; have := HK2.out; omega⟩, ⟨by (try simp only [hl16_2]); (with_reducible repeat (first | apply Kd.S_alloc | apply Kd.S_drewN | apply Kd.S_drew)); exact HO_16.out⟩, ⟨by repeat (first | (with_reducible first | exact HB.out | apply below_alloc | apply pw_below_drewN | apply below_drew1) | exact HB.out)⟩⟩
                              · replace c39 := Bool.eq_false_iff.mpr c39
                                subst c39
                                have H1 : (chargeparklaw30_BidsUnshifted.l0 k2 l0 l1 a2 false y221 (wrap64 (x17_2 + 1))) = some r := by rw [if_neg (show ¬ (false = true) by decide)] at H; exact H
                                clear H
                                have H := H1
                                clear H1
                                have H' := Aside0.mk H
                                clear H
                                have p222 : 0 ≤ (0 : Int) := (by omega)
                                have q222 : 0 < (l0.length : Int) := of_decide_eq_true (by first | (with_reducible assumption) | assumption)
                                obtain ⟨ad222, A222_0, c222_0, e222, hx222_0, hl222_0, hi222_0⟩ := at_L1 HR0.out 0 p222 q222
                                cases e222
                                have qi222 : (0 < l0.length) = True := eq_true (by omega)
                                (try rw [show ((0 : Int)).toNat = 0 from rfl] at hx222_0)
                                (try rw [Addr.add_zero'] at hx222_0)
                                replace hx222_0 := (HB.out.cell (World.block_lt_of_cell? w _ hx222_0)).trans hx222_0
                                have HR222_0 := Aside0.mk hi222_0
                                have HC222_0 := Aside0.mk hl222_0
                                clear hi222_0 hl222_0
                                replace p222 := eq_true p222
                                replace q222 := eq_true q222
                                go_wp2_with (first | ((with_reducible refine gate_callee (f := 11) rfl ?_); refine goesL_ (some 92) rfl rfl Try.func11 (by kernel_rfl) rfl #[.slice (some ad222) l0.length c0, .slice A1 l1.length c1, .int .i64 a2, .int .i64 x17_2] rfl (by (try simp only [List.map_toArray, List.map_cons, List.map_nil]); first | done | rfl | (simp only [List.length_drop, List.length_take]; rfl)) ?_; (with_reducible refine (bids_Baseline.calls k2 _ _ l0 _ _ l1 a2 x17_2 t223 t224 _ ?side1 ?side2 ?side3 ?side4 A37.out).mono ?_); (case side1 => repeat (first | exact (Kd.C_below HR0.out HB.out) | (with_reducible refine Kd.C_alloc ?_ _) | (with_reducible refine Kd.C_drewN ?_ _) | (with_reducible refine Kd.C_drew ?_))); (case side2 => exact HC0.out); (case side3 => repeat (first | exact (Kd.C_below HR1.out HB.out) | (with_reducible refine Kd.C_alloc ?_ _) | (with_reducible refine Kd.C_drewN ?_ _) | (with_reducible refine Kd.C_drew ?_))); (case side4 => exact HC1.out); rintro e w45 ⟨rfl, hb⟩; refine ⟨_, rfl, ?_⟩; have n0_ := Aside0.mk (Kd.S_below (by (with_reducible repeat (first | apply Kd.S_alloc | apply Kd.S_drewN | apply Kd.S_drew)); exact HO_16.out) hb); have n1_ := Aside0.mk (below_step (by repeat (first | (with_reducible first | exact HB.out | apply below_alloc | apply pw_below_drewN | apply below_drew1) | exact HB.out)) hb); clear HO_16; clear HB; have HO_16 := n0_; have HB := n1_; clear n0_ n1_; (try clear hb); (try clear hb2); (try clear hk); (try clear hi)) | ((with_reducible refine gate_callee (f := 11) rfl ?_); refine goesL_ (some 100) rfl rfl Try.func11 (by kernel_rfl) rfl #[.slice (some ad217) y221.length co32, .slice A1 l1.length c1, .int .i64 a2, .int .i64 x17_2] rfl (by (try simp only [List.map_toArray, List.map_cons, List.map_nil]); first | done | rfl | (simp only [List.length_drop, List.length_take]; rfl)) ?_; (with_reducible refine (bids_Baseline.calls k2 _ _ y221 _ _ l1 a2 x17_2 t225 t226 _ ?side1 ?side2 ?side3 ?side4 A38.out).mono ?_); (case side1 => repeat (first | exact (Kd.S_reads' HO_16.out).2.2 | (with_reducible refine Kd.C_alloc ?_ _) | (with_reducible refine Kd.C_drewN ?_ _) | (with_reducible refine Kd.C_drew ?_))); (case side2 => exact (Kd.S_reads' HO_16.out).2.1); (case side3 => repeat (first | exact (Kd.C_below HR1.out HB.out) | (with_reducible refine Kd.C_alloc ?_ _) | (with_reducible refine Kd.C_drewN ?_ _) | (with_reducible refine Kd.C_drew ?_))); (case side4 => exact HC1.out); rintro e w46 ⟨rfl, hb⟩; refine ⟨_, rfl, ?_⟩; have n0_ := Aside0.mk (Kd.S_below (by (with_reducible repeat (first | apply Kd.S_alloc | apply Kd.S_drewN | apply Kd.S_drew)); exact HO_16.out) hb); have n1_ := Aside0.mk (below_step (by repeat (first | (with_reducible first | exact HB.out | apply below_alloc | apply pw_below_drewN | apply below_drew1) | exact HB.out)) hb); clear HO_16; clear HB; have HO_16 := n0_; have HB := n1_; clear n0_ n1_; (try clear hb); (try clear hb2); (try clear hk); (try clear hi)))
                                (try simp only [← hl16_2])
                                go_roundg k2
                                case measure => have := HJ8.out; have := HK2.out; omega
                                case rel => exact ⟨(false), (wrap64 (x17_2 + 1)), (by first | rfl | (simp; done) | (simp [*]; done)), (by first | rfl | (simp; done) | (simp [*]; done)), H', ⟨by have := HJ8.out; have := HK2.out; omega⟩, ⟨by (try simp only [hl16_2]); (with_reducible repeat (first | apply Kd.S_alloc | apply Kd.S_drewN | apply Kd.S_drew)); exact HO_16.out⟩, ⟨by repeat (first | (with_reducible first | exact HB.out | apply below_alloc | apply pw_below_drewN | apply below_drew1) | exact HB.out)⟩⟩
                            · rw [if_neg c36] at H
                              have c36b0 : decide (x17_2 < ((rd_L1 l0 0).length : Int)) = false := decide_eq_false c36
                              clear c36
                              obtain rfl := Option.some.inj H
                              simp only [Option.some.injEq, Prod.mk.injEq] at H
                              obtain ⟨rfl⟩ := H
                              have p222 : 0 ≤ (0 : Int) := (by omega)
                              have q222 : 0 < (l0.length : Int) := of_decide_eq_true (by first | (with_reducible assumption) | assumption)
                              obtain ⟨ad222, A222_0, c222_0, e222, hx222_0, hl222_0, hi222_0⟩ := at_L1 HR0.out 0 p222 q222
                              cases e222
                              have qi222 : (0 < l0.length) = True := eq_true (by omega)
                              (try rw [show ((0 : Int)).toNat = 0 from rfl] at hx222_0)
                              (try rw [Addr.add_zero'] at hx222_0)
                              replace hx222_0 := (HB.out.cell (World.block_lt_of_cell? w _ hx222_0)).trans hx222_0
                              have HR222_0 := Aside0.mk hi222_0
                              have HC222_0 := Aside0.mk hl222_0
                              clear hi222_0 hl222_0
                              replace p222 := eq_true p222
                              replace q222 := eq_true q222
                              go_wp2
                              go_ret
                              exact ⟨by first | rfl | (simp [errW_none, errW_some] <;> rfl) | (simp only [← hji22, ← hji26]; first | rfl | (simp [errW_none, errW_some] <;> rfl)) | (simp [*, errW_none, errW_some] <;> rfl), by repeat (first | (with_reducible first | exact HB.out | apply below_alloc | apply pw_below_drewN | apply below_drew1) | exact HB.out)⟩
                          · rw [if_neg c35] at H
                            exact absurd H (by simp)
                    · rw [if_neg c28] at H
                      exact absurd H (by simp)
                  · rw [if_neg c27] at H
                    exact absurd H (by simp)
              · rw [if_neg c24] at H
                exact absurd H (by simp)
            · rw [if_neg c23] at H
              exact absurd H (by simp)

end Go.Proofs.Ytakmioomcnnfjaa.PAll
