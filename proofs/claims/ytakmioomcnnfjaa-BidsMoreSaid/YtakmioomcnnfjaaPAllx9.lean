/- What the Go functions of this seat's laws return, told as Lean functions and proved by their walks; laid by a program of this session out of Lean's own print of the translation. No conditions of its own. -/
import Derived.Test.YtakmioomcnnfjaaPAllx0
import Derived.Test.YtakmioomcnnfjaaPAllx1
import Derived.Test.YtakmioomcnnfjaaPAllx2
import Derived.Test.YtakmioomcnnfjaaPAllx3
import Derived.Test.YtakmioomcnnfjaaPAllx4
import Derived.Test.YtakmioomcnnfjaaPAllx5
namespace Go.Proofs.Ytakmioomcnnfjaa.PAll
open Go.RowKit Go.Proofs.YtakmioomcnnfjaaW.PrintWords Go.Proofs.YtakmioomcnnfjaaW.PrintLast Go.Proofs.YtakmioomcnnfjaaW.PrintMore
attribute [local go_sem] max2_int min2_int max_two min_two max_three min_three max_four min_four   -- for this text's walks alone
set_option linter.unusedVariables false
set_option linter.unusedSimpArgs false

/-! ### chargeparklaw30_BidsMore: function 7 -/
def chargeparklaw30_BidsMore.j0 : Nat → List (List Int) → List Bool → Int → Int → Int → Int → Bool → Bool → Option (Bool)
  | 0, _, _, _, _, _, _, _, _ => none
  | k + 1, x0, x1, x2, x3, x4, x5, x13, x61 => if x61 = true then (some x13) else (if x2 = 0 then (none) else ((chargeparkref30_Copy.f k x0).bind fun t267 => (if 0 ≤ (Int.tmod x4 x2) then (if (Int.tmod x4 x2) < (t267.length : Int) then (if 0 ≤ x3 then (if x3 < ((rd_L1 t267 (Int.tmod x4 x2)).length : Int) then ((some (t267.set ((Int.tmod x4 x2) : Int).toNat ((rd_L1 t267 (Int.tmod x4 x2)).set (x3 : Int).toNat (wrap64 ((rd (rd_L1 t267 (Int.tmod x4 x2)) x3) + x5))) : List (List Int))).bind fun y274 => ((chargeparkref30_Valid.f k y274 x1).bind fun t275 => ((bids_Baseline.f k x0 x1 x2 x3).bind fun bt276 => ((bids_Baseline.f k y274 x1 x2 x3).bind fun bt278 => (if x13 = true then (if t275 = true then (if bt276.2 = bt278.2 then (if bt278.1 ≥ bt276.1 then (some (decide (bt278.1 ≤ (wrap64 (bt276.1 + (wrap64 (Int.tdiv (wrap64 (x5 + 4)) 5))))))) else (some false)) else (some false)) else (some true)) else (some false)))))) else (none)) else (none)) else (none)) else (none))))
def chargeparklaw30_BidsMore.f (k : Nat) (l0 : List (List Int)) (l1 : List Bool) (a2 : Int) (a3 : Int) (a4 : Int) (a5 : Int) : Option (Bool) := (chargeparklaw30_head_c.f).bind fun _ => ((chargeparklaw30_usable.f k l0 l1).bind fun t265 => (if t265 = true then (if a2 < 1 then (chargeparklaw30_BidsMore.j0 k l0 l1 a2 a3 a4 a5 true true) else (if a2 > (l0.length : Int) then (chargeparklaw30_BidsMore.j0 k l0 l1 a2 a3 a4 a5 true true) else (if a3 < 0 then (chargeparklaw30_BidsMore.j0 k l0 l1 a2 a3 a4 a5 true true) else (if 0 < (l0.length : Int) then (if a3 ≥ ((rd_L1 l0 0).length : Int) then (chargeparklaw30_BidsMore.j0 k l0 l1 a2 a3 a4 a5 true true) else (if a4 < 0 then (chargeparklaw30_BidsMore.j0 k l0 l1 a2 a3 a4 a5 true true) else (if a5 < 0 then (chargeparklaw30_BidsMore.j0 k l0 l1 a2 a3 a4 a5 true true) else (chargeparklaw30_BidsMore.j0 k l0 l1 a2 a3 a4 a5 true (decide (a5 > 1000)))))) else (none))))) else (chargeparklaw30_BidsMore.j0 k l0 l1 a2 a3 a4 a5 true true)))
theorem chargeparklaw30_BidsMore.mono_l : ∀ k, (∀ y0 y1 y2 y3 y4 y5 y6 y7, LeO (chargeparklaw30_BidsMore.j0 k y0 y1 y2 y3 y4 y5 y6 y7) (chargeparklaw30_BidsMore.j0 (k + 1) y0 y1 y2 y3 y4 y5 y6 y7))
  | 0 => fun _ _ _ _ _ _ _ _ r h => by simp [chargeparklaw30_BidsMore.j0] at h
  | k + 1 => by
    have ih0 := chargeparklaw30_BidsMore.mono_l k
    · intro y0 y1 y2 y3 y4 y5 y6 y7
      unfold chargeparklaw30_BidsMore.j0
      repeat' first
      | (with_reducible exact ih0 _ _ _ _ _ _ _ _)
      | (with_reducible exact bids_Baseline.mono _ _ _ _ _)
      | (with_reducible exact chargeparklaw30_usable.mono _ _ _)
      | (with_reducible exact chargeparkref30_Copy.mono _ _)
      | (with_reducible exact chargeparkref30_Valid.mono _ _ _)
      | (with_reducible exact LeO.refl _)
      | (with_reducible exact LeO.none _)
      | (with_reducible refine LeO.ite ?_ ?_)
      | (with_reducible refine LeO.bind ?_ (fun _ => ?_))
      | exact ih0 _ _ _ _ _ _ _ _
      | exact bids_Baseline.mono _ _ _ _ _
      | exact chargeparklaw30_usable.mono _ _ _
      | exact chargeparkref30_Copy.mono _ _
      | exact chargeparkref30_Valid.mono _ _ _
      | exact LeO.none _
      | refine LeO.ite ?_ ?_
      | refine LeO.bind ?_ (fun _ => ?_)
theorem chargeparklaw30_BidsMore.mono : ∀ a0 a1 a2 a3 a4 a5 k, LeO (chargeparklaw30_BidsMore.f k a0 a1 a2 a3 a4 a5) (chargeparklaw30_BidsMore.f (k + 1) a0 a1 a2 a3 a4 a5) := by
  intro a0 a1 a2 a3 a4 a5 k
  have ih0 := chargeparklaw30_BidsMore.mono_l k
  unfold chargeparklaw30_BidsMore.f
  repeat' first
      | (with_reducible exact ih0 _ _ _ _ _ _ _ _)
      | (with_reducible exact bids_Baseline.mono _ _ _ _ _)
      | (with_reducible exact chargeparklaw30_usable.mono _ _ _)
      | (with_reducible exact chargeparkref30_Copy.mono _ _)
      | (with_reducible exact chargeparkref30_Valid.mono _ _ _)
      | (with_reducible exact LeO.refl _)
      | (with_reducible exact LeO.none _)
      | (with_reducible refine LeO.ite ?_ ?_)
      | (with_reducible refine LeO.bind ?_ (fun _ => ?_))
      | exact ih0 _ _ _ _ _ _ _ _
      | exact bids_Baseline.mono _ _ _ _ _
      | exact chargeparklaw30_usable.mono _ _ _
      | exact chargeparkref30_Copy.mono _ _
      | exact chargeparkref30_Valid.mono _ _ _
      | exact LeO.none _
      | refine LeO.ite ?_ ?_
      | refine LeO.bind ?_ (fun _ => ?_)
set_option maxHeartbeats 8000000 in
set_option maxRecDepth 100000 in
theorem chargeparklaw30_BidsMore.calls (k : Nat) (A0 : Option Addr) (c0 : Nat) (l0 : List (List Int)) (A1 : Option Addr) (c1 : Nat) (l1 : List Bool) (a2 : Int) (a3 : Int) (a4 : Int) (a5 : Int) (r : Bool) (w : World) (hr0 : Kd.C (Kd.slice 3 (Kd.int .i64)) w A0 l0.length l0) (hc0 : l0.length ≤ c0) (hr1 : Kd.C Kd.bool w A1 l1.length l1) (hc1 : l1.length ≤ c1) (h : chargeparklaw30_BidsMore.f k l0 l1 a2 a3 a4 a5 = some r) (hr : Aside0 (r = true)) :
    Calls Try.prog 7 #[.slice A0 l0.length c0, .slice A1 l1.length c1, .int .i64 a2, .int .i64 a3, .int .i64 a4, .int .i64 a5] w fun e w' => e = .returned (.bool r) ∧ Below w.heap.size w w' := by
  have HR0 := Aside0.mk hr0
  have HC0 := Aside0.mk hc0
  clear hr0 hc0
  have HR1 := Aside0.mk hr1
  have HC1 := Aside0.mk hc1
  clear hr1 hc1
  have HB := Aside0.mk (Below.refl w.heap.size w)
  have H : ((chargeparklaw30_head_c.f).bind fun _ => ((chargeparklaw30_usable.f k l0 l1).bind fun t265 => (if t265 = true then (if a2 < 1 then (chargeparklaw30_BidsMore.j0 k l0 l1 a2 a3 a4 a5 true true) else (if a2 > (l0.length : Int) then (chargeparklaw30_BidsMore.j0 k l0 l1 a2 a3 a4 a5 true true) else (if a3 < 0 then (chargeparklaw30_BidsMore.j0 k l0 l1 a2 a3 a4 a5 true true) else (if 0 < (l0.length : Int) then (if a3 ≥ ((rd_L1 l0 0).length : Int) then (chargeparklaw30_BidsMore.j0 k l0 l1 a2 a3 a4 a5 true true) else (if a4 < 0 then (chargeparklaw30_BidsMore.j0 k l0 l1 a2 a3 a4 a5 true true) else (if a5 < 0 then (chargeparklaw30_BidsMore.j0 k l0 l1 a2 a3 a4 a5 true true) else (chargeparklaw30_BidsMore.j0 k l0 l1 a2 a3 a4 a5 true (decide (a5 > 1000)))))) else (none))))) else (chargeparklaw30_BidsMore.j0 k l0 l1 a2 a3 a4 a5 true true)))) = some r := h
  clear h
  replace H := Option.bind_eq_some_iff.mp H
  obtain ⟨tc_, A70, H⟩ := H
  obtain rfl : true = tc_ := Option.some.inj ((show chargeparklaw30_head_c.f = some true by kernel_rfl).symm.trans A70)
  replace H : ((chargeparklaw30_usable.f k l0 l1).bind fun t265 => (if t265 = true then (if a2 < 1 then (chargeparklaw30_BidsMore.j0 k l0 l1 a2 a3 a4 a5 true true) else (if a2 > (l0.length : Int) then (chargeparklaw30_BidsMore.j0 k l0 l1 a2 a3 a4 a5 true true) else (if a3 < 0 then (chargeparklaw30_BidsMore.j0 k l0 l1 a2 a3 a4 a5 true true) else (if 0 < (l0.length : Int) then (if a3 ≥ ((rd_L1 l0 0).length : Int) then (chargeparklaw30_BidsMore.j0 k l0 l1 a2 a3 a4 a5 true true) else (if a4 < 0 then (chargeparklaw30_BidsMore.j0 k l0 l1 a2 a3 a4 a5 true true) else (if a5 < 0 then (chargeparklaw30_BidsMore.j0 k l0 l1 a2 a3 a4 a5 true true) else (chargeparklaw30_BidsMore.j0 k l0 l1 a2 a3 a4 a5 true (decide (a5 > 1000)))))) else (none))))) else (chargeparklaw30_BidsMore.j0 k l0 l1 a2 a3 a4 a5 true true))) = some r := H
  have A7 := Aside0.mk A70
  clear A70
  replace H := Option.bind_eq_some_iff.mp H
  obtain ⟨t265, A80, H⟩ := H
  replace H : (if t265 = true then (if a2 < 1 then (chargeparklaw30_BidsMore.j0 k l0 l1 a2 a3 a4 a5 true true) else (if a2 > (l0.length : Int) then (chargeparklaw30_BidsMore.j0 k l0 l1 a2 a3 a4 a5 true true) else (if a3 < 0 then (chargeparklaw30_BidsMore.j0 k l0 l1 a2 a3 a4 a5 true true) else (if 0 < (l0.length : Int) then (if a3 ≥ ((rd_L1 l0 0).length : Int) then (chargeparklaw30_BidsMore.j0 k l0 l1 a2 a3 a4 a5 true true) else (if a4 < 0 then (chargeparklaw30_BidsMore.j0 k l0 l1 a2 a3 a4 a5 true true) else (if a5 < 0 then (chargeparklaw30_BidsMore.j0 k l0 l1 a2 a3 a4 a5 true true) else (chargeparklaw30_BidsMore.j0 k l0 l1 a2 a3 a4 a5 true (decide (a5 > 1000)))))) else (none))))) else (chargeparklaw30_BidsMore.j0 k l0 l1 a2 a3 a4 a5 true true)) = some r := H
  have A8 := Aside0.mk A80
  clear A80
  have HC9 := Aside0.mk H
  clear H
  go_enter Try.func7, Try.ntmps7
  go_upto_region 3 with (first | ((with_reducible refine gate_callee (f := 9) rfl ?_); refine goesL_ (some 22) rfl rfl Try.func9 (by kernel_rfl) rfl #[] rfl (by (try simp only [List.map_toArray, List.map_cons, List.map_nil]); first | done | rfl | (simp only [List.length_drop, List.length_take]; rfl)) ?_; (with_reducible refine (chargeparklaw30_head_c.calls  true _ A7.out).mono ?_); rintro e w10 ⟨rfl, hb⟩; refine ⟨_, rfl, ?_⟩; have n0_ := Aside0.mk (below_step (by repeat (first | (with_reducible first | exact HB.out | apply below_alloc | apply pw_below_drewN | apply below_drew1) | exact HB.out)) hb); clear HB; have HB := n0_; clear n0_; (try clear hb); (try clear hb2); (try clear hk); (try clear hi)) | ((with_reducible refine gate_callee (f := 15) rfl ?_); refine goesL_ (some 25) rfl rfl Try.func15 (by kernel_rfl) rfl #[.slice A0 l0.length c0, .slice A1 l1.length c1] rfl (by (try simp only [List.map_toArray, List.map_cons, List.map_nil]); first | done | rfl | (simp only [List.length_drop, List.length_take]; rfl)) ?_; (with_reducible refine (chargeparklaw30_usable.calls k _ _ l0 _ _ l1 t265 _ ?side1 ?side2 ?side3 ?side4 A8.out).mono ?_); (case side1 => repeat (first | exact (Kd.C_below HR0.out HB.out) | (with_reducible refine Kd.C_alloc ?_ _) | (with_reducible refine Kd.C_drewN ?_ _) | (with_reducible refine Kd.C_drew ?_))); (case side2 => exact HC0.out); (case side3 => repeat (first | exact (Kd.C_below HR1.out HB.out) | (with_reducible refine Kd.C_alloc ?_ _) | (with_reducible refine Kd.C_drewN ?_ _) | (with_reducible refine Kd.C_drew ?_))); (case side4 => exact HC1.out); rintro e w' ⟨rfl, ⟨nd, rfl⟩⟩; refine ⟨_, rfl, ?_⟩))
  (try simp only [Act.put, List.setIfInBounds_toArray, List.set_cons_zero, List.set_cons_succ])
  go_cut [61] (fun v61 wc => ∃ (kq : Nat) (x61_8 : Bool), v61 = .bool x61_8 ∧ Aside0 (chargeparklaw30_BidsMore.j0 kq l0 l1 a2 a3 a4 a5 true x61_8 = some r) ∧ Aside0 (kq ≤ k) ∧ Aside0 (Below w.heap.size w wc))
  case first =>
    have H := HC9.out
    clear HC9
    by_cases c11 : t265 = true
    · subst c11
      have H1 : (if a2 < 1 then (chargeparklaw30_BidsMore.j0 k l0 l1 a2 a3 a4 a5 true true) else (if a2 > (l0.length : Int) then (chargeparklaw30_BidsMore.j0 k l0 l1 a2 a3 a4 a5 true true) else (if a3 < 0 then (chargeparklaw30_BidsMore.j0 k l0 l1 a2 a3 a4 a5 true true) else (if 0 < (l0.length : Int) then (if a3 ≥ ((rd_L1 l0 0).length : Int) then (chargeparklaw30_BidsMore.j0 k l0 l1 a2 a3 a4 a5 true true) else (if a4 < 0 then (chargeparklaw30_BidsMore.j0 k l0 l1 a2 a3 a4 a5 true true) else (if a5 < 0 then (chargeparklaw30_BidsMore.j0 k l0 l1 a2 a3 a4 a5 true true) else (chargeparklaw30_BidsMore.j0 k l0 l1 a2 a3 a4 a5 true (decide (a5 > 1000)))))) else (none))))) = some r := by first | (rw [if_pos rfl] at H; exact H) | (rw [if_pos trivial] at H; exact H)
      clear H
      have H := H1
      clear H1
      by_cases c12 : a2 < 1
      · rw [if_pos c12] at H
        have c12b0 : decide (a2 < 1) = true := decide_eq_true c12
        clear c12
        (first | rw [c12b0] | (simp only [i64_w, i32_w]; rw [c12b0]) | skip)
        have H' := Aside0.mk H
        clear H
        go_wp2
        go_meet
        case rel => exact ⟨_, (true), (by first | rfl | (simp; done) | (simp [*]; done)), H', ⟨by first | omega | exact Nat.le_refl _⟩, ⟨by repeat (first | (with_reducible first | exact HB.out | apply below_alloc | apply pw_below_drewN | apply below_drew1) | exact HB.out)⟩⟩
      · rw [if_neg c12] at H
        have c12b0 : decide (a2 < 1) = false := decide_eq_false c12
        clear c12
        (first | rw [c12b0] | (simp only [i64_w, i32_w]; rw [c12b0]) | skip)
        by_cases c13 : a2 > (l0.length : Int)
        · rw [if_pos c13] at H
          have c13b0 : decide ((l0.length : Int) < a2) = true := decide_eq_true c13
          clear c13
          have H' := Aside0.mk H
          clear H
          go_wp2
          go_meet
          case rel => exact ⟨_, (true), (by first | rfl | (simp; done) | (simp [*]; done)), H', ⟨by first | omega | exact Nat.le_refl _⟩, ⟨by repeat (first | (with_reducible first | exact HB.out | apply below_alloc | apply pw_below_drewN | apply below_drew1) | exact HB.out)⟩⟩
        · rw [if_neg c13] at H
          have c13b0 : decide ((l0.length : Int) < a2) = false := decide_eq_false c13
          clear c13
          by_cases c14 : a3 < 0
          · rw [if_pos c14] at H
            have c14b0 : decide (a3 < 0) = true := decide_eq_true c14
            clear c14
            have H' := Aside0.mk H
            clear H
            go_wp2
            go_meet
            case rel => exact ⟨_, (true), (by first | rfl | (simp; done) | (simp [*]; done)), H', ⟨by first | omega | exact Nat.le_refl _⟩, ⟨by repeat (first | (with_reducible first | exact HB.out | apply below_alloc | apply pw_below_drewN | apply below_drew1) | exact HB.out)⟩⟩
          · rw [if_neg c14] at H
            have c14b0 : decide (a3 < 0) = false := decide_eq_false c14
            clear c14
            by_cases c15 : 0 < (l0.length : Int)
            · rw [if_pos c15] at H
              have c15b0 : decide (0 < (l0.length : Int)) = true := decide_eq_true c15
              have c15b1 : decide (0 < l0.length) = true := decide_eq_true (by omega)
              clear c15
              by_cases c16 : a3 ≥ ((rd_L1 l0 0).length : Int)
              · rw [if_pos c16] at H
                have c16b0 : decide (((rd_L1 l0 0).length : Int) ≤ a3) = true := decide_eq_true c16
                clear c16
                have H' := Aside0.mk H
                clear H
                have p266 : 0 ≤ (0 : Int) := (by omega)
                have q266 : 0 < (l0.length : Int) := of_decide_eq_true (by first | (with_reducible assumption) | assumption)
                obtain ⟨ad266, A266_0, c266_0, e266, hx266_0, hl266_0, hi266_0⟩ := at_L1 HR0.out 0 p266 q266
                cases e266
                have qi266 : (0 < l0.length) = True := eq_true (by omega)
                (try rw [show ((0 : Int)).toNat = 0 from rfl] at hx266_0)
                (try rw [Addr.add_zero'] at hx266_0)
                replace hx266_0 := (HB.out.cell (World.block_lt_of_cell? w _ hx266_0)).trans hx266_0
                have HR266_0 := Aside0.mk hi266_0
                have HC266_0 := Aside0.mk hl266_0
                clear hi266_0 hl266_0
                replace p266 := eq_true p266
                replace q266 := eq_true q266
                go_wp2
                go_meet
                case rel => exact ⟨_, (true), (by first | rfl | (simp; done) | (simp [*]; done)), H', ⟨by first | omega | exact Nat.le_refl _⟩, ⟨by repeat (first | (with_reducible first | exact HB.out | apply below_alloc | apply pw_below_drewN | apply below_drew1) | exact HB.out)⟩⟩
              · rw [if_neg c16] at H
                have c16b0 : decide (((rd_L1 l0 0).length : Int) ≤ a3) = false := decide_eq_false c16
                clear c16
                by_cases c17 : a4 < 0
                · rw [if_pos c17] at H
                  have c17b0 : decide (a4 < 0) = true := decide_eq_true c17
                  clear c17
                  have H' := Aside0.mk H
                  clear H
                  have p266 : 0 ≤ (0 : Int) := (by omega)
                  have q266 : 0 < (l0.length : Int) := of_decide_eq_true (by first | (with_reducible assumption) | assumption)
                  obtain ⟨ad266, A266_0, c266_0, e266, hx266_0, hl266_0, hi266_0⟩ := at_L1 HR0.out 0 p266 q266
                  cases e266
                  have qi266 : (0 < l0.length) = True := eq_true (by omega)
                  (try rw [show ((0 : Int)).toNat = 0 from rfl] at hx266_0)
                  (try rw [Addr.add_zero'] at hx266_0)
                  replace hx266_0 := (HB.out.cell (World.block_lt_of_cell? w _ hx266_0)).trans hx266_0
                  have HR266_0 := Aside0.mk hi266_0
                  have HC266_0 := Aside0.mk hl266_0
                  clear hi266_0 hl266_0
                  replace p266 := eq_true p266
                  replace q266 := eq_true q266
                  go_wp2
                  go_meet
                  case rel => exact ⟨_, (true), (by first | rfl | (simp; done) | (simp [*]; done)), H', ⟨by first | omega | exact Nat.le_refl _⟩, ⟨by repeat (first | (with_reducible first | exact HB.out | apply below_alloc | apply pw_below_drewN | apply below_drew1) | exact HB.out)⟩⟩
                · rw [if_neg c17] at H
                  have c17b0 : decide (a4 < 0) = false := decide_eq_false c17
                  clear c17
                  by_cases c18 : a5 < 0
                  · rw [if_pos c18] at H
                    have c18b0 : decide (a5 < 0) = true := decide_eq_true c18
                    clear c18
                    have H' := Aside0.mk H
                    clear H
                    have p266 : 0 ≤ (0 : Int) := (by omega)
                    have q266 : 0 < (l0.length : Int) := of_decide_eq_true (by first | (with_reducible assumption) | assumption)
                    obtain ⟨ad266, A266_0, c266_0, e266, hx266_0, hl266_0, hi266_0⟩ := at_L1 HR0.out 0 p266 q266
                    cases e266
                    have qi266 : (0 < l0.length) = True := eq_true (by omega)
                    (try rw [show ((0 : Int)).toNat = 0 from rfl] at hx266_0)
                    (try rw [Addr.add_zero'] at hx266_0)
                    replace hx266_0 := (HB.out.cell (World.block_lt_of_cell? w _ hx266_0)).trans hx266_0
                    have HR266_0 := Aside0.mk hi266_0
                    have HC266_0 := Aside0.mk hl266_0
                    clear hi266_0 hl266_0
                    replace p266 := eq_true p266
                    replace q266 := eq_true q266
                    go_wp2
                    go_meet
                    case rel => exact ⟨_, (true), (by first | rfl | (simp; done) | (simp [*]; done)), H', ⟨by first | omega | exact Nat.le_refl _⟩, ⟨by repeat (first | (with_reducible first | exact HB.out | apply below_alloc | apply pw_below_drewN | apply below_drew1) | exact HB.out)⟩⟩
                  · rw [if_neg c18] at H
                    have c18b0 : decide (a5 < 0) = false := decide_eq_false c18
                    clear c18
                    have H' := Aside0.mk H
                    clear H
                    have p266 : 0 ≤ (0 : Int) := (by omega)
                    have q266 : 0 < (l0.length : Int) := of_decide_eq_true (by first | (with_reducible assumption) | assumption)
                    obtain ⟨ad266, A266_0, c266_0, e266, hx266_0, hl266_0, hi266_0⟩ := at_L1 HR0.out 0 p266 q266
                    cases e266
                    have qi266 : (0 < l0.length) = True := eq_true (by omega)
                    (try rw [show ((0 : Int)).toNat = 0 from rfl] at hx266_0)
                    (try rw [Addr.add_zero'] at hx266_0)
                    replace hx266_0 := (HB.out.cell (World.block_lt_of_cell? w _ hx266_0)).trans hx266_0
                    have HR266_0 := Aside0.mk hi266_0
                    have HC266_0 := Aside0.mk hl266_0
                    clear hi266_0 hl266_0
                    replace p266 := eq_true p266
                    replace q266 := eq_true q266
                    go_wp2
                    go_meet
                    case rel => exact ⟨_, (decide (a5 > 1000)), (by first | rfl | (simp; done) | (simp [*]; done)), H', ⟨by first | omega | exact Nat.le_refl _⟩, ⟨by repeat (first | (with_reducible first | exact HB.out | apply below_alloc | apply pw_below_drewN | apply below_drew1) | exact HB.out)⟩⟩
            · rw [if_neg c15] at H
              exact absurd H (by simp)
    · replace c11 := Bool.eq_false_iff.mpr c11
      subst c11
      have H1 : (chargeparklaw30_BidsMore.j0 k l0 l1 a2 a3 a4 a5 true true) = some r := by rw [if_neg (show ¬ (false = true) by decide)] at H; exact H
      clear H
      have H := H1
      clear H1
      have H' := Aside0.mk H
      clear H
      go_wp2
      go_meet
      case rel => exact ⟨_, (true), (by first | rfl | (simp; done) | (simp [*]; done)), H', ⟨by first | omega | exact Nat.le_refl _⟩, ⟨by repeat (first | (with_reducible first | exact HB.out | apply below_alloc | apply pw_below_drewN | apply below_drew1) | exact HB.out)⟩⟩
  case rest =>
    clear HC9
    try clear c1
    try clear c2
    try clear p2
    try clear q2
    try clear hx2
    try clear qi2
    try clear c7
    try clear c9
    try clear c11
    try clear c12
    try clear c12b0
    try clear c13
    try clear c13b0
    try clear c14
    try clear c14b0
    try clear c15
    try clear c15b0
    try clear c15b1
    try clear c16
    try clear c16b0
    try clear c17
    try clear c17b0
    try clear c18
    try clear c18b0
    try clear hx266_0
    try clear p266
    try clear q266
    obtain ⟨kq, x61_8, rfl, HA, HJ8, HB⟩ := hcut
    cases kq with
    | zero => exact absurd HA.out (by simp [chargeparklaw30_BidsMore.j0])
    | succ kj8 =>
      have H := HA.out
      clear HA
      simp only [chargeparklaw30_BidsMore.j0] at H
      by_cases c19 : x61_8 = true
      · subst c19
        have H1 : (some true) = some r := by first | (rw [if_pos rfl] at H; exact H) | (rw [if_pos trivial] at H; exact H)
        clear H
        have H := H1
        clear H1
        obtain rfl := Option.some.inj H
        simp only [Option.some.injEq, Prod.mk.injEq] at H
        obtain ⟨rfl⟩ := H
        go_wp2
        go_ret
        exact ⟨by first | rfl | (simp [errW_none, errW_some] <;> rfl) | (simp [*, errW_none, errW_some] <;> rfl), by repeat (first | (with_reducible first | exact HB.out | apply below_alloc | apply pw_below_drewN | apply below_drew1) | exact HB.out)⟩
      · replace c19 := Bool.eq_false_iff.mpr c19
        subst c19
        have H1 : (if a2 = 0 then (none) else ((chargeparkref30_Copy.f kj8 l0).bind fun t267 => (if 0 ≤ (Int.tmod a4 a2) then (if (Int.tmod a4 a2) < (t267.length : Int) then (if 0 ≤ a3 then (if a3 < ((rd_L1 t267 (Int.tmod a4 a2)).length : Int) then ((some (t267.set ((Int.tmod a4 a2) : Int).toNat ((rd_L1 t267 (Int.tmod a4 a2)).set (a3 : Int).toNat (wrap64 ((rd (rd_L1 t267 (Int.tmod a4 a2)) a3) + a5))) : List (List Int))).bind fun y274 => ((chargeparkref30_Valid.f kj8 y274 l1).bind fun t275 => ((bids_Baseline.f kj8 l0 l1 a2 a3).bind fun bt276 => ((bids_Baseline.f kj8 y274 l1 a2 a3).bind fun bt278 => (if true = true then (if t275 = true then (if bt276.2 = bt278.2 then (if bt278.1 ≥ bt276.1 then (some (decide (bt278.1 ≤ (wrap64 (bt276.1 + (wrap64 (Int.tdiv (wrap64 (a5 + 4)) 5))))))) else (some false)) else (some false)) else (some true)) else (some false)))))) else (none)) else (none)) else (none)) else (none)))) = some r := by rw [if_neg (show ¬ (false = true) by decide)] at H; exact H
        clear H
        have H := H1
        clear H1
        by_cases c20 : a2 = 0
        · rw [if_pos c20] at H
          exact absurd H (by simp)
        · rw [if_neg c20] at H
          have c20b0 : (a2 == 0) = false := beq_eq_false_iff_ne.mpr c20
          have c20b1 : (a2 != 0) = true := bne_iff_ne.mpr c20
          replace H := Option.bind_eq_some_iff.mp H
          obtain ⟨t267, A210, H⟩ := H
          replace H : (if 0 ≤ (Int.tmod a4 a2) then (if (Int.tmod a4 a2) < (t267.length : Int) then (if 0 ≤ a3 then (if a3 < ((rd_L1 t267 (Int.tmod a4 a2)).length : Int) then ((some (t267.set ((Int.tmod a4 a2) : Int).toNat ((rd_L1 t267 (Int.tmod a4 a2)).set (a3 : Int).toNat (wrap64 ((rd (rd_L1 t267 (Int.tmod a4 a2)) a3) + a5))) : List (List Int))).bind fun y274 => ((chargeparkref30_Valid.f kj8 y274 l1).bind fun t275 => ((bids_Baseline.f kj8 l0 l1 a2 a3).bind fun bt276 => ((bids_Baseline.f kj8 y274 l1 a2 a3).bind fun bt278 => (if true = true then (if t275 = true then (if bt276.2 = bt278.2 then (if bt278.1 ≥ bt276.1 then (some (decide (bt278.1 ≤ (wrap64 (bt276.1 + (wrap64 (Int.tdiv (wrap64 (a5 + 4)) 5))))))) else (some false)) else (some false)) else (some true)) else (some false)))))) else (none)) else (none)) else (none)) else (none)) = some r := H
          have A21 := Aside0.mk A210
          clear A210
          obtain ⟨ji22, hji22⟩ : ∃ j_ : Int, (Int.tmod a4 a2) = j_ := ⟨_, rfl⟩
          replace H : (if 0 ≤ (ji22) then (if (ji22) < (t267.length : Int) then (if 0 ≤ a3 then (if a3 < ((rd_L1 t267 (ji22)).length : Int) then ((some (t267.set ((ji22) : Int).toNat ((rd_L1 t267 (ji22)).set (a3 : Int).toNat (wrap64 ((rd (rd_L1 t267 (ji22)) a3) + a5))) : List (List Int))).bind fun y274 => ((chargeparkref30_Valid.f kj8 y274 l1).bind fun t275 => ((bids_Baseline.f kj8 l0 l1 a2 a3).bind fun bt276 => ((bids_Baseline.f kj8 y274 l1 a2 a3).bind fun bt278 => (if true = true then (if t275 = true then (if bt276.2 = bt278.2 then (if bt278.1 ≥ bt276.1 then (some (decide (bt278.1 ≤ (wrap64 (bt276.1 + (wrap64 (Int.tdiv (wrap64 (a5 + 4)) 5))))))) else (some false)) else (some false)) else (some true)) else (some false)))))) else (none)) else (none)) else (none)) else (none)) = some r := by first | (rw [hji22] at H; exact H) | (simp only [hji22] at H ⊢; exact H)
          (try rw [hji22] at A21)
          by_cases c23 : 0 ≤ (ji22)
          · rw [if_pos c23] at H
            have c23b0 : decide (0 ≤ (ji22)) = true := decide_eq_true c23
            clear c23
            by_cases c24 : (ji22) < (t267.length : Int)
            · rw [if_pos c24] at H
              have c24b0 : decide ((ji22) < (t267.length : Int)) = true := decide_eq_true c24
              clear c24
              by_cases c25 : 0 ≤ a3
              · rw [if_pos c25] at H
                have c25b0 : decide (0 ≤ a3) = true := decide_eq_true c25
                clear c25
                by_cases c26 : a3 < ((rd_L1 t267 (ji22)).length : Int)
                · rw [if_pos c26] at H
                  have c26b0 : decide (a3 < ((rd_L1 t267 (ji22)).length : Int)) = true := decide_eq_true c26
                  clear c26
                  obtain ⟨y272, hy272⟩ : ∃ y_ : List Int, y_ = ((rd_L1 t267 (ji22)).set (a3 : Int).toNat (wrap64 ((rd (rd_L1 t267 (ji22)) a3) + a5))) := ⟨_, rfl⟩
                  replace H : ((some (t267.set ((ji22) : Int).toNat y272 : List (List Int))).bind fun y274 => ((chargeparkref30_Valid.f kj8 y274 l1).bind fun t275 => ((bids_Baseline.f kj8 l0 l1 a2 a3).bind fun bt276 => ((bids_Baseline.f kj8 y274 l1 a2 a3).bind fun bt278 => (if true = true then (if t275 = true then (if bt276.2 = bt278.2 then (if bt278.1 ≥ bt276.1 then (some (decide (bt278.1 ≤ (wrap64 (bt276.1 + (wrap64 (Int.tdiv (wrap64 (a5 + 4)) 5))))))) else (some false)) else (some false)) else (some true)) else (some false)))))) = some r := by first | (rw [hy272]; with_reducible exact H) | (have H2_ := (Option.bind_some _ _).symm.trans H; rw [hy272]; with_reducible exact H2_) | (have H2_ := (Option.bind_some _ _).symm.trans H; with_reducible exact H2_) | with_reducible exact H | (rw [hy272]; exact H) | exact H
                  have Ny272 := Aside0.mk hy272
                  clear hy272
                  obtain ⟨y274, hy274⟩ : ∃ y_ : List (List Int), y_ = (t267.set ((ji22) : Int).toNat y272) := ⟨_, rfl⟩
                  replace H : ((chargeparkref30_Valid.f kj8 y274 l1).bind fun t275 => ((bids_Baseline.f kj8 l0 l1 a2 a3).bind fun bt276 => ((bids_Baseline.f kj8 y274 l1 a2 a3).bind fun bt278 => (if true = true then (if t275 = true then (if bt276.2 = bt278.2 then (if bt278.1 ≥ bt276.1 then (some (decide (bt278.1 ≤ (wrap64 (bt276.1 + (wrap64 (Int.tdiv (wrap64 (a5 + 4)) 5))))))) else (some false)) else (some false)) else (some true)) else (some false))))) = some r := by first | (rw [hy274]; with_reducible exact H) | (have H2_ := (Option.bind_some _ _).symm.trans H; rw [hy274]; with_reducible exact H2_) | (have H2_ := (Option.bind_some _ _).symm.trans H; with_reducible exact H2_) | with_reducible exact H | (rw [hy274]; exact H) | exact H
                  have Ny274 := Aside0.mk hy274
                  clear hy274
                  replace H := Option.bind_eq_some_iff.mp H
                  obtain ⟨t275, A280, H⟩ := H
                  replace H : ((bids_Baseline.f kj8 l0 l1 a2 a3).bind fun bt276 => ((bids_Baseline.f kj8 y274 l1 a2 a3).bind fun bt278 => (if true = true then (if t275 = true then (if bt276.2 = bt278.2 then (if bt278.1 ≥ bt276.1 then (some (decide (bt278.1 ≤ (wrap64 (bt276.1 + (wrap64 (Int.tdiv (wrap64 (a5 + 4)) 5))))))) else (some false)) else (some false)) else (some true)) else (some false)))) = some r := H
                  have A28 := Aside0.mk A280
                  clear A280
                  replace H := Option.bind_eq_some_iff.mp H
                  obtain ⟨⟨t276, t277⟩, A290, H⟩ := H
                  replace H : ((bids_Baseline.f kj8 y274 l1 a2 a3).bind fun bt278 => (if true = true then (if t275 = true then (if t277 = bt278.2 then (if bt278.1 ≥ t276 then (some (decide (bt278.1 ≤ (wrap64 (t276 + (wrap64 (Int.tdiv (wrap64 (a5 + 4)) 5))))))) else (some false)) else (some false)) else (some true)) else (some false))) = some r := H
                  have A29 := Aside0.mk A290
                  clear A290
                  replace H := Option.bind_eq_some_iff.mp H
                  obtain ⟨⟨t278, t279⟩, A300, H⟩ := H
                  replace H : (if true = true then (if t275 = true then (if t277 = t279 then (if t278 ≥ t276 then (some (decide (t278 ≤ (wrap64 (t276 + (wrap64 (Int.tdiv (wrap64 (a5 + 4)) 5))))))) else (some false)) else (some false)) else (some true)) else (some false)) = some r := H
                  have A30 := Aside0.mk A300
                  clear A300
                  by_cases c31 : (true = true)
                  · clear c31
                    have H1 : (if t275 = true then (if t277 = t279 then (if t278 ≥ t276 then (some (decide (t278 ≤ (wrap64 (t276 + (wrap64 (Int.tdiv (wrap64 (a5 + 4)) 5))))))) else (some false)) else (some false)) else (some true)) = some r := by first | (rw [if_pos rfl] at H; exact H) | (rw [if_pos trivial] at H; exact H)
                    clear H
                    have H := H1
                    clear H1
                    by_cases c32 : t275 = true
                    · subst c32
                      have H1 : (if t277 = t279 then (if t278 ≥ t276 then (some (decide (t278 ≤ (wrap64 (t276 + (wrap64 (Int.tdiv (wrap64 (a5 + 4)) 5))))))) else (some false)) else (some false)) = some r := by first | (rw [if_pos rfl] at H; exact H) | (rw [if_pos trivial] at H; exact H)
                      clear H
                      have H := H1
                      clear H1
                      by_cases c33 : t277 = t279
                      · rw [if_pos c33] at H
                        have c33b0 : (t277 == t279) = true := beq_iff_eq.mpr c33
                        have c33b1 : (t277 != t279) = false := bne_eq_false_iff_eq.mpr c33
                        clear c33
                        by_cases c34 : t278 ≥ t276
                        · rw [if_pos c34] at H
                          have c34b0 : decide (t276 ≤ t278) = true := decide_eq_true c34
                          clear c34
                          obtain rfl := Option.some.inj H
                          simp only [Option.some.injEq, Prod.mk.injEq] at H
                          obtain ⟨rfl⟩ := H
                          go_wp2_with (first | ((with_reducible refine gate_callee (f := 17) rfl ?_); refine goesL_ (some 67) rfl rfl Try.func17 (by kernel_rfl) rfl #[.slice A0 l0.length c0] rfl (by (try simp only [List.map_toArray, List.map_cons, List.map_nil]); first | done | rfl | (simp only [List.length_drop, List.length_take]; rfl)) ?_; (with_reducible refine (chargeparkref30_Copy.calls kj8 _ _ l0 t267 _ ?side1 ?side2 A21.out).mono ?_); (case side1 => repeat (first | exact (Kd.C_below HR0.out HB.out) | (with_reducible refine Kd.C_alloc ?_ _) | (with_reducible refine Kd.C_drewN ?_ _) | (with_reducible refine Kd.C_drew ?_))); (case side2 => exact HC0.out); rintro e w35 ⟨v268, rfl, ho0, hb⟩; refine ⟨_, rfl, ?_⟩; have n0_ := Aside0.mk (Kd.S_lower ho0 (below_size (by repeat (first | (with_reducible first | exact HB.out | apply below_alloc | apply pw_below_drewN | apply below_drew1) | exact HB.out)))); have n1_ := Aside0.mk (below_step (by repeat (first | (with_reducible first | exact HB.out | apply below_alloc | apply pw_below_drewN | apply below_drew1) | exact HB.out)) hb); clear HB; have HO269 := n0_; have HB := n1_; clear n0_ n1_; (try clear hb); (try clear hb2); (try clear hk); (try clear hi); (try clear ho0); obtain ⟨Ao36, co36, eo36⟩ := Kd.S_slice HO269.out; subst eo36; have p270 : 0 ≤ ((ji22) : Int) := of_decide_eq_true (by first | (with_reducible assumption) | assumption); have q270 : (ji22) < (t267.length : Int) := of_decide_eq_true (by first | (with_reducible assumption) | assumption); obtain ⟨ad270, A270_0, c270_0, e270, hx270_0, hl270_0, hi270_0⟩ := at_L1 (Kd.S_reads' HO269.out).2.2 (ji22) p270 q270; cases e270; obtain ⟨ce270, hce270, hMe270, hcc270⟩ := Kd.S_get HO269.out [] (ji22) p270 (by first | exact q270 | exact of_decide_eq_true (by first | (with_reducible assumption) | assumption) | (have e_ := (Kd.S_reads' HO269.out).1; omega)); obtain ⟨ve270_0, rfl, ge270_0⟩ := hMe270; have hv270_0 := hcc270 0 _ rfl; rw [Nat.add_zero, show ((Kd.slice 3 (Kd.int .i64))).sz = 1 from rfl, Nat.mul_one] at hv270_0; replace hv270_0 := Option.some.inj (hv270_0.symm.trans hx270_0); rw [hv270_0] at ge270_0; have HL270_0 := Aside0.mk (show Kd.R (Kd.int .i64) 3 _ _ _ _ (rd_L1 t267 (ji22)) from ge270_0); clear hv270_0 ge270_0; have HX270_0 := Aside0.mk hx270_0; clear hcc270 hce270; have HR270_0 := Aside0.mk hi270_0; have HC270_0 := Aside0.mk hl270_0; clear hi270_0 hl270_0; replace p270 := eq_true p270; replace q270 := eq_true q270; have p271 : 0 ≤ (a3 : Int) := of_decide_eq_true (by first | (with_reducible assumption) | assumption); have q271 : a3 < ((rd_L1 t267 (ji22)).length : Int) := of_decide_eq_true (by first | (with_reducible assumption) | assumption); obtain ⟨ad271, e271, hx271_0⟩ := Kd.at_int (by repeat (first | (with_reducible exact HR270_0.out) | (with_reducible refine Kd.C_alloc ?_ _) | (with_reducible refine Kd.C_drewN ?_ _) | (with_reducible refine Kd.C_drew ?_) | exact HR270_0.out)) a3 p271 q271; cases e271; replace p271 := eq_true p271; replace q271 := eq_true q271; have p27 : 0 ≤ (a3 : Int) := of_decide_eq_true (by first | (with_reducible assumption) | assumption); have q27 : (a3 : Int) < (((rd_L1 t267 (ji22)).length : Int) : Int) := of_decide_eq_true (by first | (with_reducible assumption) | assumption); obtain ⟨go27, co27, eo27, gb27, gl27, cl27, HG27⟩ := Kd.R_form HL270_0.out (by omega); (first | cases eo27 | (injection eo27 with ea_ en_ ec_; (first | subst ea_ | (injection ea_ with ea_; subst ea_)); subst ec_; clear en_)); have GB27 := Aside0.mk gb27; have GG27 := Aside0.mk HG27; clear gb27 gl27 HG27; (first | simp only [add_plain] at hx271_0 | skip); obtain ⟨hx27_0, hf27_0⟩ := Kd.R_celln 0 HL270_0.out (a3 : Int) p27 q27; replace p27 := eq_true p27; replace q27 := eq_true q27; have hq37 : ((ji22) : Int) < (t267.length : Int) := (by have h_ : ((ji22) : Int) < ((t267.length : Int) : Int) := of_decide_eq_true (by first | (with_reducible assumption) | assumption); first | exact h_ | (have e_ := (Kd.S_reads' HO269.out).1; omega) | simpa only [List.length_set, List.length_set] using h_); obtain ⟨oki37, ce37, hcl37, hM37, hcc37, hok37, hbk37⟩ := Kd.S_borrow HO269.out [] ((ji22) : Int) (of_decide_eq_true (by first | (with_reducible assumption) | assumption)) hq37; obtain ⟨ve37_0, rfl, ge37_0⟩ := hM37; have hv37 := hcc37 0 _ rfl; rw [Nat.add_zero, show ((Kd.slice 3 (Kd.int .i64))).sz = 1 from rfl, Nat.mul_one] at hv37; replace hv37 := Option.some.inj (hv37.symm.trans HX270_0.out); subst hv37; clear hcc37 hcl37; replace ge37_0 := (show Kd.R (Kd.int .i64) 3 _ _ _ _ (rd_L1 t267 (ji22)) from ge37_0); have HP37 := Kd.R_putg ge37_0 (a3 : Int) (wrap64 ((rd (rd_L1 t267 (ji22)) a3) + a5))) | ((with_reducible refine gate_store (t := 3) (p := 77) rfl ?_); refine store_event (t := 3) (p := 77) (v := ?vo_w38) (w1 := (w35.setCell ⟨go27, (a3 : Int).toNat, none⟩ (.int .i64 (wrap64 ((rd (rd_L1 t267 (ji22)) a3) + a5))))) ?hg ?ho ?hn ?hr ?_; (case ho => rfl); (case hg => rfl); (case hn => rfl); (case hr => first | (go_simp; done) | (go_simp; rfl)); intro w38 hw; have hg : w35.grownBy w38 (some go27) := (by rw [hw]; exact HP37.2); have hz_ : Kd.R (Kd.int .i64) 3 w38 w.heap.size oki37 (.slice (some ⟨go27, 0, none⟩) (rd_L1 t267 (ji22)).length c270_0) y272 := (by rw [hw, Ny272.out]; exact HP37.1); have hp_ : Kd.S (Kd.slice 3 (Kd.int .i64)) 33 w38 w.heap.size (fun _ => True) (.slice (some ad270) t267.length co36) y274 := (by rw [Ny274.out]; exact hbk37 hg (fun k_ e_ => by injection e_ with e_; subst e_; exact ge37_0.1 _ rfl) (Kd.M_row hz_)); have hm_ := Kd.R_mono hz_ hok37; clear HP37 hbk37; have n0_ := Aside0.mk (hp_); have n1_ := Aside0.mk ((by rw [hw]; exact below_set (HB.out) GB27.out : Below w.heap.size w w38)); have n2_ := Aside0.mk (hm_); have n3_ := Aside0.mk ((Kd.R_reads' hm_).2.1); clear HO269; clear HB; clear HL270_0; have HO269 := n0_; have HB := n1_; have HL280 := n2_; have HC273 := n3_; clear n0_ n1_ n2_ n3_; clear hg hw hp_ hz_ hm_ hok37) | ((with_reducible refine gate_callee (f := 18) rfl ?_); refine goesL_ (some 80) rfl rfl Try.func18 (by kernel_rfl) rfl #[.slice (some ad270) y274.length co36, .slice A1 l1.length c1] rfl (by (try simp only [List.map_toArray, List.map_cons, List.map_nil]); first | done | (rw [show y274.length = t267.length from (Kd.S_reads' HO269.out).1.symm] <;> rfl) | rfl | (simp only [List.length_drop, List.length_take]; rfl)) ?_; (with_reducible refine (chargeparkref30_Valid.calls kj8 _ _ y274 _ _ l1 true _ ?side1 ?side2 ?side3 ?side4 A28.out).mono ?_); (case side1 => repeat (first | exact (Kd.S_reads' HO269.out).2.2 | (with_reducible refine Kd.C_alloc ?_ _) | (with_reducible refine Kd.C_drewN ?_ _) | (with_reducible refine Kd.C_drew ?_))); (case side2 => rw [show y274.length = t267.length from (Kd.S_reads' HO269.out).1.symm]; exact (Kd.S_reads' HO269.out).2.1); (case side3 => repeat (first | exact (Kd.C_below HR1.out HB.out) | (with_reducible refine Kd.C_alloc ?_ _) | (with_reducible refine Kd.C_drewN ?_ _) | (with_reducible refine Kd.C_drew ?_))); (case side4 => exact HC1.out); rintro e w' ⟨rfl, ⟨nd, rfl⟩⟩; refine ⟨_, rfl, ?_⟩) | ((with_reducible refine gate_callee (f := 11) rfl ?_); refine goesL_ (some 86) rfl rfl Try.func11 (by kernel_rfl) rfl #[.slice A0 l0.length c0, .slice A1 l1.length c1, .int .i64 a2, .int .i64 a3] rfl (by (try simp only [List.map_toArray, List.map_cons, List.map_nil]); first | done | rfl | (simp only [List.length_drop, List.length_take]; rfl)) ?_; (with_reducible refine (bids_Baseline.calls kj8 _ _ l0 _ _ l1 a2 a3 t276 t277 _ ?side1 ?side2 ?side3 ?side4 A29.out).mono ?_); (case side1 => repeat (first | exact (Kd.C_below HR0.out (by repeat (first | (with_reducible first | exact HB.out | apply below_alloc | apply pw_below_drewN | apply below_drew1) | exact HB.out))) | (with_reducible refine Kd.C_alloc ?_ _) | (with_reducible refine Kd.C_drewN ?_ _) | (with_reducible refine Kd.C_drew ?_))); (case side2 => exact HC0.out); (case side3 => repeat (first | exact (Kd.C_below HR1.out (by repeat (first | (with_reducible first | exact HB.out | apply below_alloc | apply pw_below_drewN | apply below_drew1) | exact HB.out))) | (with_reducible refine Kd.C_alloc ?_ _) | (with_reducible refine Kd.C_drewN ?_ _) | (with_reducible refine Kd.C_drew ?_))); (case side4 => exact HC1.out); rintro e w39 ⟨rfl, hb⟩; refine ⟨_, rfl, ?_⟩; have n0_ := Aside0.mk (Kd.S_below (by (with_reducible repeat (first | apply Kd.S_alloc | apply Kd.S_drewN | apply Kd.S_drew)); exact HO269.out) hb); have n1_ := Aside0.mk (Kd.R_below (by (with_reducible repeat (first | apply Kd.R_alloc | apply Kd.R_drewN | apply Kd.R_drew)); exact HL280.out) hb); have n2_ := Aside0.mk (below_step (by repeat (first | (with_reducible first | exact HB.out | apply below_alloc | apply pw_below_drewN | apply below_drew1) | exact HB.out)) hb); clear HO269; clear HL280; clear HB; have HO269 := n0_; have HL280 := n1_; have HB := n2_; clear n0_ n1_ n2_; (try clear hb); (try clear hb2); (try clear hk); (try clear hi)) | ((with_reducible refine gate_callee (f := 11) rfl ?_); refine goesL_ (some 94) rfl rfl Try.func11 (by kernel_rfl) rfl #[.slice (some ad270) y274.length co36, .slice A1 l1.length c1, .int .i64 a2, .int .i64 a3] rfl (by (try simp only [List.map_toArray, List.map_cons, List.map_nil]); first | done | (rw [show y274.length = t267.length from (Kd.S_reads' HO269.out).1.symm] <;> rfl) | rfl | (simp only [List.length_drop, List.length_take]; rfl)) ?_; (with_reducible refine (bids_Baseline.calls kj8 _ _ y274 _ _ l1 a2 a3 t278 t279 _ ?side1 ?side2 ?side3 ?side4 A30.out).mono ?_); (case side1 => repeat (first | exact (Kd.S_reads' HO269.out).2.2 | (with_reducible refine Kd.C_alloc ?_ _) | (with_reducible refine Kd.C_drewN ?_ _) | (with_reducible refine Kd.C_drew ?_))); (case side2 => rw [show y274.length = t267.length from (Kd.S_reads' HO269.out).1.symm]; exact (Kd.S_reads' HO269.out).2.1); (case side3 => repeat (first | exact (Kd.C_below HR1.out HB.out) | (with_reducible refine Kd.C_alloc ?_ _) | (with_reducible refine Kd.C_drewN ?_ _) | (with_reducible refine Kd.C_drew ?_))); (case side4 => exact HC1.out); rintro e w40 ⟨rfl, hb⟩; refine ⟨_, rfl, ?_⟩; have n0_ := Aside0.mk (Kd.S_below (by (with_reducible repeat (first | apply Kd.S_alloc | apply Kd.S_drewN | apply Kd.S_drew)); exact HO269.out) hb); have n1_ := Aside0.mk (Kd.R_below (by (with_reducible repeat (first | apply Kd.R_alloc | apply Kd.R_drewN | apply Kd.R_drew)); exact HL280.out) hb); have n2_ := Aside0.mk (below_step (by repeat (first | (with_reducible first | exact HB.out | apply below_alloc | apply pw_below_drewN | apply below_drew1) | exact HB.out)) hb); clear HO269; clear HL280; clear HB; have HO269 := n0_; have HL280 := n1_; have HB := n2_; clear n0_ n1_ n2_; (try clear hb); (try clear hb2); (try clear hk); (try clear hi)))
                          go_ret
                          exact ⟨by first | rfl | (simp [errW_none, errW_some] <;> rfl) | (simp only [← hji22]; first | rfl | (simp [errW_none, errW_some] <;> rfl)) | (simp [*, errW_none, errW_some] <;> rfl), by repeat (first | (with_reducible first | exact HB.out | apply below_alloc | apply pw_below_drewN | apply below_drew1) | exact HB.out)⟩
                        · rw [if_neg c34] at H
                          have c34b0 : decide (t276 ≤ t278) = false := decide_eq_false c34
                          clear c34
                          obtain rfl := Option.some.inj H
                          exact absurd hr.out (by decide)
                      · rw [if_neg c33] at H
                        have c33b0 : (t277 == t279) = false := beq_eq_false_iff_ne.mpr c33
                        have c33b1 : (t277 != t279) = true := bne_iff_ne.mpr c33
                        obtain rfl := Option.some.inj H
                        exact absurd hr.out (by decide)
                    · replace c32 := Bool.eq_false_iff.mpr c32
                      subst c32
                      have H1 : (some true) = some r := by rw [if_neg (show ¬ (false = true) by decide)] at H; exact H
                      clear H
                      have H := H1
                      clear H1
                      obtain rfl := Option.some.inj H
                      simp only [Option.some.injEq, Prod.mk.injEq] at H
                      obtain ⟨rfl⟩ := H
                      go_wp2_with (first | ((with_reducible refine gate_callee (f := 17) rfl ?_); refine goesL_ (some 67) rfl rfl Try.func17 (by kernel_rfl) rfl #[.slice A0 l0.length c0] rfl (by (try simp only [List.map_toArray, List.map_cons, List.map_nil]); first | done | rfl | (simp only [List.length_drop, List.length_take]; rfl)) ?_; (with_reducible refine (chargeparkref30_Copy.calls kj8 _ _ l0 t267 _ ?side1 ?side2 A21.out).mono ?_); (case side1 => repeat (first | exact (Kd.C_below HR0.out HB.out) | (with_reducible refine Kd.C_alloc ?_ _) | (with_reducible refine Kd.C_drewN ?_ _) | (with_reducible refine Kd.C_drew ?_))); (case side2 => exact HC0.out); rintro e w41 ⟨v268, rfl, ho0, hb⟩; refine ⟨_, rfl, ?_⟩; have n0_ := Aside0.mk (Kd.S_lower ho0 (below_size (by repeat (first | (with_reducible first | exact HB.out | apply below_alloc | apply pw_below_drewN | apply below_drew1) | exact HB.out)))); have n1_ := Aside0.mk (below_step (by repeat (first | (with_reducible first | exact HB.out | apply below_alloc | apply pw_below_drewN | apply below_drew1) | exact HB.out)) hb); clear HB; have HO269 := n0_; have HB := n1_; clear n0_ n1_; (try clear hb); (try clear hb2); (try clear hk); (try clear hi); (try clear ho0); obtain ⟨Ao42, co42, eo42⟩ := Kd.S_slice HO269.out; subst eo42; have p270 : 0 ≤ ((ji22) : Int) := of_decide_eq_true (by first | (with_reducible assumption) | assumption); have q270 : (ji22) < (t267.length : Int) := of_decide_eq_true (by first | (with_reducible assumption) | assumption); obtain ⟨ad270, A270_0, c270_0, e270, hx270_0, hl270_0, hi270_0⟩ := at_L1 (Kd.S_reads' HO269.out).2.2 (ji22) p270 q270; cases e270; obtain ⟨ce270, hce270, hMe270, hcc270⟩ := Kd.S_get HO269.out [] (ji22) p270 (by first | exact q270 | exact of_decide_eq_true (by first | (with_reducible assumption) | assumption) | (have e_ := (Kd.S_reads' HO269.out).1; omega)); obtain ⟨ve270_0, rfl, ge270_0⟩ := hMe270; have hv270_0 := hcc270 0 _ rfl; rw [Nat.add_zero, show ((Kd.slice 3 (Kd.int .i64))).sz = 1 from rfl, Nat.mul_one] at hv270_0; replace hv270_0 := Option.some.inj (hv270_0.symm.trans hx270_0); rw [hv270_0] at ge270_0; have HL270_0 := Aside0.mk (show Kd.R (Kd.int .i64) 3 _ _ _ _ (rd_L1 t267 (ji22)) from ge270_0); clear hv270_0 ge270_0; have HX270_0 := Aside0.mk hx270_0; clear hcc270 hce270; have HR270_0 := Aside0.mk hi270_0; have HC270_0 := Aside0.mk hl270_0; clear hi270_0 hl270_0; replace p270 := eq_true p270; replace q270 := eq_true q270; have p271 : 0 ≤ (a3 : Int) := of_decide_eq_true (by first | (with_reducible assumption) | assumption); have q271 : a3 < ((rd_L1 t267 (ji22)).length : Int) := of_decide_eq_true (by first | (with_reducible assumption) | assumption); obtain ⟨ad271, e271, hx271_0⟩ := Kd.at_int (by repeat (first | (with_reducible exact HR270_0.out) | (with_reducible refine Kd.C_alloc ?_ _) | (with_reducible refine Kd.C_drewN ?_ _) | (with_reducible refine Kd.C_drew ?_) | exact HR270_0.out)) a3 p271 q271; cases e271; replace p271 := eq_true p271; replace q271 := eq_true q271; have p27 : 0 ≤ (a3 : Int) := of_decide_eq_true (by first | (with_reducible assumption) | assumption); have q27 : (a3 : Int) < (((rd_L1 t267 (ji22)).length : Int) : Int) := of_decide_eq_true (by first | (with_reducible assumption) | assumption); obtain ⟨go27, co27, eo27, gb27, gl27, cl27, HG27⟩ := Kd.R_form HL270_0.out (by omega); (first | cases eo27 | (injection eo27 with ea_ en_ ec_; (first | subst ea_ | (injection ea_ with ea_; subst ea_)); subst ec_; clear en_)); have GB27 := Aside0.mk gb27; have GG27 := Aside0.mk HG27; clear gb27 gl27 HG27; (first | simp only [add_plain] at hx271_0 | skip); obtain ⟨hx27_0, hf27_0⟩ := Kd.R_celln 0 HL270_0.out (a3 : Int) p27 q27; replace p27 := eq_true p27; replace q27 := eq_true q27; have hq43 : ((ji22) : Int) < (t267.length : Int) := (by have h_ : ((ji22) : Int) < ((t267.length : Int) : Int) := of_decide_eq_true (by first | (with_reducible assumption) | assumption); first | exact h_ | (have e_ := (Kd.S_reads' HO269.out).1; omega) | simpa only [List.length_set, List.length_set] using h_); obtain ⟨oki43, ce43, hcl43, hM43, hcc43, hok43, hbk43⟩ := Kd.S_borrow HO269.out [] ((ji22) : Int) (of_decide_eq_true (by first | (with_reducible assumption) | assumption)) hq43; obtain ⟨ve43_0, rfl, ge43_0⟩ := hM43; have hv43 := hcc43 0 _ rfl; rw [Nat.add_zero, show ((Kd.slice 3 (Kd.int .i64))).sz = 1 from rfl, Nat.mul_one] at hv43; replace hv43 := Option.some.inj (hv43.symm.trans HX270_0.out); subst hv43; clear hcc43 hcl43; replace ge43_0 := (show Kd.R (Kd.int .i64) 3 _ _ _ _ (rd_L1 t267 (ji22)) from ge43_0); have HP43 := Kd.R_putg ge43_0 (a3 : Int) (wrap64 ((rd (rd_L1 t267 (ji22)) a3) + a5))) | ((with_reducible refine gate_store (t := 3) (p := 77) rfl ?_); refine store_event (t := 3) (p := 77) (v := ?vo_w44) (w1 := (w41.setCell ⟨go27, (a3 : Int).toNat, none⟩ (.int .i64 (wrap64 ((rd (rd_L1 t267 (ji22)) a3) + a5))))) ?hg ?ho ?hn ?hr ?_; (case ho => rfl); (case hg => rfl); (case hn => rfl); (case hr => first | (go_simp; done) | (go_simp; rfl)); intro w44 hw; have hg : w41.grownBy w44 (some go27) := (by rw [hw]; exact HP43.2); have hz_ : Kd.R (Kd.int .i64) 3 w44 w.heap.size oki43 (.slice (some ⟨go27, 0, none⟩) (rd_L1 t267 (ji22)).length c270_0) y272 := (by rw [hw, Ny272.out]; exact HP43.1); have hp_ : Kd.S (Kd.slice 3 (Kd.int .i64)) 33 w44 w.heap.size (fun _ => True) (.slice (some ad270) t267.length co42) y274 := (by rw [Ny274.out]; exact hbk43 hg (fun k_ e_ => by injection e_ with e_; subst e_; exact ge43_0.1 _ rfl) (Kd.M_row hz_)); have hm_ := Kd.R_mono hz_ hok43; clear HP43 hbk43; have n0_ := Aside0.mk (hp_); have n1_ := Aside0.mk ((by rw [hw]; exact below_set (HB.out) GB27.out : Below w.heap.size w w44)); have n2_ := Aside0.mk (hm_); have n3_ := Aside0.mk ((Kd.R_reads' hm_).2.1); clear HO269; clear HB; clear HL270_0; have HO269 := n0_; have HB := n1_; have HL281 := n2_; have HC273 := n3_; clear n0_ n1_ n2_ n3_; clear hg hw hp_ hz_ hm_ hok43) | ((with_reducible refine gate_callee (f := 18) rfl ?_); refine goesL_ (some 80) rfl rfl Try.func18 (by kernel_rfl) rfl #[.slice (some ad270) y274.length co42, .slice A1 l1.length c1] rfl (by (try simp only [List.map_toArray, List.map_cons, List.map_nil]); first | done | (rw [show y274.length = t267.length from (Kd.S_reads' HO269.out).1.symm] <;> rfl) | rfl | (simp only [List.length_drop, List.length_take]; rfl)) ?_; (with_reducible refine (chargeparkref30_Valid.calls kj8 _ _ y274 _ _ l1 false _ ?side1 ?side2 ?side3 ?side4 A28.out).mono ?_); (case side1 => repeat (first | exact (Kd.S_reads' HO269.out).2.2 | (with_reducible refine Kd.C_alloc ?_ _) | (with_reducible refine Kd.C_drewN ?_ _) | (with_reducible refine Kd.C_drew ?_))); (case side2 => rw [show y274.length = t267.length from (Kd.S_reads' HO269.out).1.symm]; exact (Kd.S_reads' HO269.out).2.1); (case side3 => repeat (first | exact (Kd.C_below HR1.out HB.out) | (with_reducible refine Kd.C_alloc ?_ _) | (with_reducible refine Kd.C_drewN ?_ _) | (with_reducible refine Kd.C_drew ?_))); (case side4 => exact HC1.out); rintro e w' ⟨rfl, ⟨nd, rfl⟩⟩; refine ⟨_, rfl, ?_⟩) | ((with_reducible refine gate_callee (f := 11) rfl ?_); refine goesL_ (some 86) rfl rfl Try.func11 (by kernel_rfl) rfl #[.slice A0 l0.length c0, .slice A1 l1.length c1, .int .i64 a2, .int .i64 a3] rfl (by (try simp only [List.map_toArray, List.map_cons, List.map_nil]); first | done | rfl | (simp only [List.length_drop, List.length_take]; rfl)) ?_; (with_reducible refine (bids_Baseline.calls kj8 _ _ l0 _ _ l1 a2 a3 t276 t277 _ ?side1 ?side2 ?side3 ?side4 A29.out).mono ?_); (case side1 => repeat (first | exact (Kd.C_below HR0.out (by repeat (first | (with_reducible first | exact HB.out | apply below_alloc | apply pw_below_drewN | apply below_drew1) | exact HB.out))) | (with_reducible refine Kd.C_alloc ?_ _) | (with_reducible refine Kd.C_drewN ?_ _) | (with_reducible refine Kd.C_drew ?_))); (case side2 => exact HC0.out); (case side3 => repeat (first | exact (Kd.C_below HR1.out (by repeat (first | (with_reducible first | exact HB.out | apply below_alloc | apply pw_below_drewN | apply below_drew1) | exact HB.out))) | (with_reducible refine Kd.C_alloc ?_ _) | (with_reducible refine Kd.C_drewN ?_ _) | (with_reducible refine Kd.C_drew ?_))); (case side4 => exact HC1.out); rintro e w45 ⟨rfl, hb⟩; refine ⟨_, rfl, ?_⟩; have n0_ := Aside0.mk (Kd.S_below (by (with_reducible repeat (first | apply Kd.S_alloc | apply Kd.S_drewN | apply Kd.S_drew)); exact HO269.out) hb); have n1_ := Aside0.mk (Kd.R_below (by (with_reducible repeat (first | apply Kd.R_alloc | apply Kd.R_drewN | apply Kd.R_drew)); exact HL281.out) hb); have n2_ := Aside0.mk (below_step (by repeat (first | (with_reducible first | exact HB.out | apply below_alloc | apply pw_below_drewN | apply below_drew1) | exact HB.out)) hb); clear HO269; clear HL281; clear HB; have HO269 := n0_; have HL281 := n1_; have HB := n2_; clear n0_ n1_ n2_; (try clear hb); (try clear hb2); (try clear hk); (try clear hi)) | ((with_reducible refine gate_callee (f := 11) rfl ?_); refine goesL_ (some 94) rfl rfl Try.func11 (by kernel_rfl) rfl #[.slice (some ad270) y274.length co42, .slice A1 l1.length c1, .int .i64 a2, .int .i64 a3] rfl (by (try simp only [List.map_toArray, List.map_cons, List.map_nil]); first | done | (rw [show y274.length = t267.length from (Kd.S_reads' HO269.out).1.symm] <;> rfl) | rfl | (simp only [List.length_drop, List.length_take]; rfl)) ?_; (with_reducible refine (bids_Baseline.calls kj8 _ _ y274 _ _ l1 a2 a3 t278 t279 _ ?side1 ?side2 ?side3 ?side4 A30.out).mono ?_); (case side1 => repeat (first | exact (Kd.S_reads' HO269.out).2.2 | (with_reducible refine Kd.C_alloc ?_ _) | (with_reducible refine Kd.C_drewN ?_ _) | (with_reducible refine Kd.C_drew ?_))); (case side2 => rw [show y274.length = t267.length from (Kd.S_reads' HO269.out).1.symm]; exact (Kd.S_reads' HO269.out).2.1); (case side3 => repeat (first | exact (Kd.C_below HR1.out HB.out) | (with_reducible refine Kd.C_alloc ?_ _) | (with_reducible refine Kd.C_drewN ?_ _) | (with_reducible refine Kd.C_drew ?_))); (case side4 => exact HC1.out); rintro e w46 ⟨rfl, hb⟩; refine ⟨_, rfl, ?_⟩; have n0_ := Aside0.mk (Kd.S_below (by (with_reducible repeat (first | apply Kd.S_alloc | apply Kd.S_drewN | apply Kd.S_drew)); exact HO269.out) hb); have n1_ := Aside0.mk (Kd.R_below (by (with_reducible repeat (first | apply Kd.R_alloc | apply Kd.R_drewN | apply Kd.R_drew)); exact HL281.out) hb); have n2_ := Aside0.mk (below_step (by repeat (first | (with_reducible first | exact HB.out | apply below_alloc | apply pw_below_drewN | apply below_drew1) | exact HB.out)) hb); clear HO269; clear HL281; clear HB; have HO269 := n0_; have HL281 := n1_; have HB := n2_; clear n0_ n1_ n2_; (try clear hb); (try clear hb2); (try clear hk); (try clear hi)))
                      go_ret
                      exact ⟨by first | rfl | (simp [errW_none, errW_some] <;> rfl) | (simp only [← hji22]; first | rfl | (simp [errW_none, errW_some] <;> rfl)) | (simp [*, errW_none, errW_some] <;> rfl), by repeat (first | (with_reducible first | exact HB.out | apply below_alloc | apply pw_below_drewN | apply below_drew1) | exact HB.out)⟩
                  · exact absurd rfl c31
                · rw [if_neg c26] at H
                  exact absurd H (by simp)
              · rw [if_neg c25] at H
                exact absurd H (by simp)
            · rw [if_neg c24] at H
              exact absurd H (by simp)
          · rw [if_neg c23] at H
            exact absurd H (by simp)

-- NOT PRINTED: function 8 (chargeparklaw30_BidsFurther)

end Go.Proofs.Ytakmioomcnnfjaa.PAll
