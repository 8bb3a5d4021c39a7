/- What the Go functions of this seat's laws return, told as Lean functions and proved by their walks; laid by a program of this session out of Lean's own print of the translation. No conditions of its own. -/
import Derived.Test.YtakmioomcnnfjaaPAllx0
namespace Go.Proofs.Ytakmioomcnnfjaa.PAll
open Go.RowKit Go.Proofs.YtakmioomcnnfjaaW.PrintWords Go.Proofs.YtakmioomcnnfjaaW.PrintLast Go.Proofs.YtakmioomcnnfjaaW.PrintMore
attribute [local go_sem] max2_int min2_int max_two min_two max_three min_three max_four min_four   -- for this text's walks alone
set_option linter.unusedVariables false
set_option linter.unusedSimpArgs false

/-! ### bids_in: function 22 -/
def bids_in.f (a0 : Int) (a1 : Int) (a2 : Int) : Option (Bool) := if a0 ≥ a1 then (some (decide (a0 ≤ a2))) else (some false)
set_option maxHeartbeats 8000000 in
set_option maxRecDepth 100000 in
theorem bids_in.calls (a0 : Int) (a1 : Int) (a2 : Int) (r : Bool) (w : World) (h : bids_in.f a0 a1 a2 = some r) :
    Calls Try.prog 22 #[.int .i64 a0, .int .i64 a1, .int .i64 a2] w fun e w' => e = .returned (.bool r) ∧ Drawn0 w w' := by
  have H : (if a0 ≥ a1 then (some (decide (a0 ≤ a2))) else (some false)) = some r := h
  clear h
  by_cases c4 : a0 ≥ a1
  · rw [if_pos c4] at H
    have c4b0 : decide (a1 ≤ a0) = true := decide_eq_true c4
    clear c4
    obtain rfl := Option.some.inj H
    simp only [Option.some.injEq, Prod.mk.injEq] at H
    obtain ⟨rfl⟩ := H
    go_enter Try.func22, Try.ntmps22
    go_wp2
    go_ret
    exact ⟨by first | rfl | (simp; done) | (simp [*]; done), by repeat (first | exact Drawn0.refl _ | apply Drawn0.step)⟩
  · rw [if_neg c4] at H
    have c4b0 : decide (a1 ≤ a0) = false := decide_eq_false c4
    clear c4
    obtain rfl := Option.some.inj H
    simp only [Option.some.injEq, Prod.mk.injEq] at H
    obtain ⟨rfl⟩ := H
    go_enter Try.func22, Try.ntmps22
    go_wp2
    go_ret
    exact ⟨by first | rfl | (simp; done) | (simp [*]; done), by repeat (first | exact Drawn0.refl _ | apply Drawn0.step)⟩

/-! ### bids_isRecord: function 21 -/
mutual
def bids_isRecord.j0 : Nat → List (List Int) → Bool → Option (Bool)
  | 0, _, _ => none
  | k + 1, x0, x18 => if x18 = true then (some false) else (bids_isRecord.l0 k x0 x0 (x0.length : Int) 0)
def bids_isRecord.l0 : Nat → List (List Int) → List (List Int) → Int → Int → Option (Bool)
  | 0, _, _, _, _ => none
  | k + 1, x0, x19, x20, x21 => if x21 < x20 then (if 0 ≤ x21 then (if x21 < (x19.length : Int) then ((bids_in.f ((rd_L1 x19 x21).length : Int) 1 24).bind fun t102 => (if t102 = true then (if 0 < (x0.length : Int) then (bids_isRecord.j2 k x0 (rd_L1 x19 x21) x19 x20 x21 (((rd_L1 x19 x21).length : Int) != ((rd_L1 x0 0).length : Int))) else (none)) else (bids_isRecord.j2 k x0 (rd_L1 x19 x21) x19 x20 x21 true))) else (none)) else (none)) else (some true)
def bids_isRecord.j2 : Nat → List (List Int) → List Int → List (List Int) → Int → Int → Bool → Option (Bool)
  | 0, _, _, _, _, _, _ => none
  | k + 1, x0, x6, x19, x20, x21, x37 => if x37 = true then (some false) else (bids_isRecord.l1 k x0 x19 x20 x21 x6 (x6.length : Int) 0)
def bids_isRecord.l1 : Nat → List (List Int) → List (List Int) → Int → Int → List Int → Int → Int → Option (Bool)
  | 0, _, _, _, _, _, _, _ => none
  | k + 1, x0, x19, x20, x21, x38, x39, x40 => if x40 < x39 then (if 0 ≤ x40 then (if x40 < (x38.length : Int) then ((bids_in.f (rd x38 x40) 0 1000).bind fun t105 => (if t105 = true then (bids_isRecord.l1 k x0 x19 x20 x21 x38 x39 (wrap64 (x40 + 1))) else (some false))) else (none)) else (none)) else (bids_isRecord.l0 k x0 x19 x20 (wrap64 (x21 + 1)))
end
def bids_isRecord.f (k : Nat) (l0 : List (List Int)) (l1 : List Bool) : Option (Bool) := if (l0.length : Int) > 60 then (bids_isRecord.j0 k l0 true) else (bids_isRecord.j0 k l0 ((l1.length : Int) != (l0.length : Int)))
theorem bids_isRecord.mono_l : ∀ k, (∀ y0 y1, LeO (bids_isRecord.j0 k y0 y1) (bids_isRecord.j0 (k + 1) y0 y1)) ∧ (∀ y0 y1 y2 y3, LeO (bids_isRecord.l0 k y0 y1 y2 y3) (bids_isRecord.l0 (k + 1) y0 y1 y2 y3)) ∧ (∀ y0 y1 y2 y3 y4 y5, LeO (bids_isRecord.j2 k y0 y1 y2 y3 y4 y5) (bids_isRecord.j2 (k + 1) y0 y1 y2 y3 y4 y5)) ∧ (∀ y0 y1 y2 y3 y4 y5 y6, LeO (bids_isRecord.l1 k y0 y1 y2 y3 y4 y5 y6) (bids_isRecord.l1 (k + 1) y0 y1 y2 y3 y4 y5 y6))
  | 0 => ⟨fun _ _ r h => by simp [bids_isRecord.j0] at h, fun _ _ _ _ r h => by simp [bids_isRecord.l0] at h, fun _ _ _ _ _ _ r h => by simp [bids_isRecord.j2] at h, fun _ _ _ _ _ _ _ r h => by simp [bids_isRecord.l1] at h⟩
  | k + 1 => by
    obtain ⟨ih0, ih1, ih2, ih3⟩ := bids_isRecord.mono_l k
    refine ⟨?_, ?_, ?_, ?_⟩
    · intro y0 y1
      unfold bids_isRecord.j0
      repeat' first
      | (with_reducible exact ih0 _ _)
      | (with_reducible exact ih1 _ _ _ _)
      | (with_reducible exact ih2 _ _ _ _ _ _)
      | (with_reducible exact ih3 _ _ _ _ _ _ _)
      | (with_reducible exact LeO.refl _)
      | (with_reducible exact LeO.none _)
      | (with_reducible refine LeO.ite ?_ ?_)
      | (with_reducible refine LeO.bind ?_ (fun _ => ?_))
      | exact ih0 _ _
      | exact ih1 _ _ _ _
      | exact ih2 _ _ _ _ _ _
      | exact ih3 _ _ _ _ _ _ _
      | exact LeO.none _
      | refine LeO.ite ?_ ?_
      | refine LeO.bind ?_ (fun _ => ?_)
    · intro y0 y1 y2 y3
      unfold bids_isRecord.l0
      repeat' first
      | (with_reducible exact ih0 _ _)
      | (with_reducible exact ih1 _ _ _ _)
      | (with_reducible exact ih2 _ _ _ _ _ _)
      | (with_reducible exact ih3 _ _ _ _ _ _ _)
      | (with_reducible exact LeO.refl _)
      | (with_reducible exact LeO.none _)
      | (with_reducible refine LeO.ite ?_ ?_)
      | (with_reducible refine LeO.bind ?_ (fun _ => ?_))
      | exact ih0 _ _
      | exact ih1 _ _ _ _
      | exact ih2 _ _ _ _ _ _
      | exact ih3 _ _ _ _ _ _ _
      | exact LeO.none _
      | refine LeO.ite ?_ ?_
      | refine LeO.bind ?_ (fun _ => ?_)
    · intro y0 y1 y2 y3 y4 y5
      unfold bids_isRecord.j2
      repeat' first
      | (with_reducible exact ih0 _ _)
      | (with_reducible exact ih1 _ _ _ _)
      | (with_reducible exact ih2 _ _ _ _ _ _)
      | (with_reducible exact ih3 _ _ _ _ _ _ _)
      | (with_reducible exact LeO.refl _)
      | (with_reducible exact LeO.none _)
      | (with_reducible refine LeO.ite ?_ ?_)
      | (with_reducible refine LeO.bind ?_ (fun _ => ?_))
      | exact ih0 _ _
      | exact ih1 _ _ _ _
      | exact ih2 _ _ _ _ _ _
      | exact ih3 _ _ _ _ _ _ _
      | exact LeO.none _
      | refine LeO.ite ?_ ?_
      | refine LeO.bind ?_ (fun _ => ?_)
    · intro y0 y1 y2 y3 y4 y5 y6
      unfold bids_isRecord.l1
      repeat' first
      | (with_reducible exact ih0 _ _)
      | (with_reducible exact ih1 _ _ _ _)
      | (with_reducible exact ih2 _ _ _ _ _ _)
      | (with_reducible exact ih3 _ _ _ _ _ _ _)
      | (with_reducible exact LeO.refl _)
      | (with_reducible exact LeO.none _)
      | (with_reducible refine LeO.ite ?_ ?_)
      | (with_reducible refine LeO.bind ?_ (fun _ => ?_))
      | exact ih0 _ _
      | exact ih1 _ _ _ _
      | exact ih2 _ _ _ _ _ _
      | exact ih3 _ _ _ _ _ _ _
      | exact LeO.none _
      | refine LeO.ite ?_ ?_
      | refine LeO.bind ?_ (fun _ => ?_)
theorem bids_isRecord.mono : ∀ a0 a1 k, LeO (bids_isRecord.f k a0 a1) (bids_isRecord.f (k + 1) a0 a1) := by
  intro a0 a1 k
  obtain ⟨ih0, ih1, ih2, ih3⟩ := bids_isRecord.mono_l k
  unfold bids_isRecord.f
  repeat' first
      | (with_reducible exact ih0 _ _)
      | (with_reducible exact ih1 _ _ _ _)
      | (with_reducible exact ih2 _ _ _ _ _ _)
      | (with_reducible exact ih3 _ _ _ _ _ _ _)
      | (with_reducible exact LeO.refl _)
      | (with_reducible exact LeO.none _)
      | (with_reducible refine LeO.ite ?_ ?_)
      | (with_reducible refine LeO.bind ?_ (fun _ => ?_))
      | exact ih0 _ _
      | exact ih1 _ _ _ _
      | exact ih2 _ _ _ _ _ _
      | exact ih3 _ _ _ _ _ _ _
      | exact LeO.none _
      | refine LeO.ite ?_ ?_
      | refine LeO.bind ?_ (fun _ => ?_)
set_option maxHeartbeats 8000000 in
set_option maxRecDepth 100000 in
theorem bids_isRecord.calls (k : Nat) (A0 : Option Addr) (c0 : Nat) (l0 : List (List Int)) (A1 : Option Addr) (c1 : Nat) (l1 : List Bool) (r : Bool) (w : World) (hr0 : Kd.C (Kd.slice 3 (Kd.int .i64)) w A0 l0.length l0) (hc0 : l0.length ≤ c0) (hr1 : Kd.C Kd.bool w A1 l1.length l1) (hc1 : l1.length ≤ c1) (h : bids_isRecord.f k l0 l1 = some r) :
    Calls Try.prog 21 #[.slice A0 l0.length c0, .slice A1 l1.length c1] w fun e w' => e = .returned (.bool r) ∧ Drawn0 w w' := by
  have HR0 := Aside0.mk hr0
  have HC0 := Aside0.mk hc0
  clear hr0 hc0
  have HR1 := Aside0.mk hr1
  have HC1 := Aside0.mk hc1
  clear hr1 hc1
  have H : (if (l0.length : Int) > 60 then (bids_isRecord.j0 k l0 true) else (bids_isRecord.j0 k l0 ((l1.length : Int) != (l0.length : Int)))) = some r := h
  clear h
  have HC3 := Aside0.mk H
  clear H
  go_enter Try.func21, Try.ntmps21
  go_upto_region 1 with (fail)
  go_cut [18] (fun v18 wc => ∃ (kq : Nat) (x18_2 : Bool), v18 = .bool x18_2 ∧ Aside0 (bids_isRecord.j0 kq l0 x18_2 = some r) ∧ Aside0 (kq ≤ k) ∧ Drawn0 w wc)
  case first =>
    have H := HC3.out
    clear HC3
    by_cases c4 : (l0.length : Int) > 60
    · rw [if_pos c4] at H
      have c4b0 : decide (60 < (l0.length : Int)) = true := decide_eq_true c4
      have c4b1 : decide (60 < l0.length) = true := decide_eq_true (by omega)
      clear c4
      (first | rw [c4b0] | (simp only [i64_w, i32_w]; rw [c4b0]) | skip)
      have H' := Aside0.mk H
      clear H
      go_wp2
      go_meet
      case rel => exact ⟨_, (true), (by first | rfl | (simp; done) | (simp [*]; done)), H', ⟨by first | omega | exact Nat.le_refl _⟩, by repeat (first | exact Drawn0.refl _ | apply Drawn0.step)⟩
    · rw [if_neg c4] at H
      have c4b0 : decide (60 < (l0.length : Int)) = false := decide_eq_false c4
      have c4b1 : decide (60 < l0.length) = false := decide_eq_false (by omega)
      clear c4
      (first | rw [c4b0] | (simp only [i64_w, i32_w]; rw [c4b0]) | skip)
      have H' := Aside0.mk H
      clear H
      go_wp2
      go_meet
      case rel => exact ⟨_, (((l1.length : Int) != (l0.length : Int))), (by first | rfl | (simp; done) | (simp [*]; done)), H', ⟨by first | omega | exact Nat.le_refl _⟩, by repeat (first | exact Drawn0.refl _ | apply Drawn0.step)⟩
  case rest =>
    clear HC3
    try clear c1
    try clear c2
    try clear p2
    try clear c4
    try clear c4b0
    try clear c4b1
    obtain ⟨kq, x18_2, rfl, HA, HJ2, ⟨mc2, rfl⟩⟩ := hcut
    cases kq with
    | zero => exact absurd HA.out (by simp [bids_isRecord.j0])
    | succ kj2 =>
      have H := HA.out
      clear HA
      simp only [bids_isRecord.j0] at H
      by_cases c5 : x18_2 = true
      · subst c5
        have H1 : (some false) = some r := by first | (rw [if_pos rfl] at H; exact H) | (rw [if_pos trivial] at H; exact H)
        clear H
        have H := H1
        clear H1
        obtain rfl := Option.some.inj H
        simp only [Option.some.injEq, Prod.mk.injEq] at H
        obtain ⟨rfl⟩ := H
        go_wp2
        go_ret
        exact ⟨by first | rfl | (simp; done) | (simp [*]; done), by repeat (first | exact Drawn0.refl _ | apply Drawn0.step)⟩
      · replace c5 := Bool.eq_false_iff.mpr c5
        subst c5
        have H1 : (bids_isRecord.l0 kj2 l0 l0 (l0.length : Int) 0) = some r := by rw [if_neg (show ¬ (false = true) by decide)] at H; exact H
        clear H
        have H := H1
        clear H1
        have H' := Aside0.mk H
        clear H
        go_wp2
        go_loopg [21] kj2 (fun kq v21 w' => ∃ (x21_2 : Int), v21 = .int .i64 x21_2 ∧ Aside0 (bids_isRecord.l0 kq l0 l0 (l0.length : Int) x21_2 = some r) ∧ Aside0 (kq ≤ kj2) ∧ Drawn0 w w')
        case atStart => exact ⟨(0), (by first | rfl | (simp; done) | (simp [*]; done)), H', ⟨Nat.le_refl _⟩, by repeat (first | exact Drawn0.refl _ | apply Drawn0.step)⟩
        case round =>
          clear H'
          try clear c1
          try clear c2
          try clear p2
          try clear c4
          try clear c4b0
          try clear c4b1
          try clear c5
          try clear p2
          obtain ⟨x21_2, rfl, HA, HK2, ⟨m2, rfl⟩⟩ := hrel
          cases gk with
          | zero => exact absurd HA.out (by simp [bids_isRecord.l0])
          | succ k2 =>
            have H := HA.out
            clear HA
            simp only [bids_isRecord.l0] at H
            by_cases c6 : x21_2 < (l0.length : Int)
            · rw [if_pos c6] at H
              have c6b0 : decide (x21_2 < (l0.length : Int)) = true := decide_eq_true c6
              clear c6
              by_cases c7 : 0 ≤ x21_2
              · rw [if_pos c7] at H
                have c7b0 : decide (0 ≤ x21_2) = true := decide_eq_true c7
                clear c7
                by_cases c8 : x21_2 < (l0.length : Int)
                · rw [if_pos c8] at H
                  have c8b0 : decide (x21_2 < (l0.length : Int)) = true := decide_eq_true c8
                  clear c8
                  have HC9 := Aside0.mk H
                  clear H
                  have p101 : 0 ≤ (x21_2 : Int) := of_decide_eq_true (by first | (with_reducible assumption) | assumption)
                  have q101 : x21_2 < (l0.length : Int) := of_decide_eq_true (by first | (with_reducible assumption) | assumption)
                  obtain ⟨ad101, A101_0, c101_0, e101, hx101_0, hl101_0, hi101_0⟩ := at_L1 HR0.out x21_2 p101 q101
                  cases e101
                  have HR101_0 := Aside0.mk hi101_0
                  have HC101_0 := Aside0.mk hl101_0
                  clear hi101_0 hl101_0
                  replace p101 := eq_true p101
                  replace q101 := eq_true q101
                  go_upto_region 6 with (fail)
                  go_cut [37] (fun v37 wc => ∃ (kq : Nat) (x37_8 : Bool), v37 = .bool x37_8 ∧ Aside0 (bids_isRecord.j2 kq l0 (rd_L1 l0 x21_2) l0 (l0.length : Int) x21_2 x37_8 = some r) ∧ Aside0 (kq ≤ k2) ∧ Drawn0 w wc)
                  case first =>
                    have H := HC9.out
                    clear HC9
                    replace H := Option.bind_eq_some_iff.mp H
                    obtain ⟨t102, A100, H⟩ := H
                    replace H : (if t102 = true then (if 0 < (l0.length : Int) then (bids_isRecord.j2 k2 l0 (rd_L1 l0 x21_2) l0 (l0.length : Int) x21_2 (((rd_L1 l0 x21_2).length : Int) != ((rd_L1 l0 0).length : Int))) else (none)) else (bids_isRecord.j2 k2 l0 (rd_L1 l0 x21_2) l0 (l0.length : Int) x21_2 true)) = some r := H
                    have A10 := Aside0.mk A100
                    clear A100
                    by_cases c11 : t102 = true
                    · subst c11
                      have H1 : (if 0 < (l0.length : Int) then (bids_isRecord.j2 k2 l0 (rd_L1 l0 x21_2) l0 (l0.length : Int) x21_2 (((rd_L1 l0 x21_2).length : Int) != ((rd_L1 l0 0).length : Int))) else (none)) = some r := by first | (rw [if_pos rfl] at H; exact H) | (rw [if_pos trivial] at H; exact H)
                      clear H
                      have H := H1
                      clear H1
                      by_cases c12 : 0 < (l0.length : Int)
                      · rw [if_pos c12] at H
                        have c12b0 : decide (0 < (l0.length : Int)) = true := decide_eq_true c12
                        have c12b1 : decide (0 < l0.length) = true := decide_eq_true (by omega)
                        clear c12
                        (first | rw [c12b0] | (simp only [i64_w, i32_w]; rw [c12b0]) | skip)
                        have H' := Aside0.mk H
                        clear H
                        go_wp2_with (first | ((with_reducible refine gate_callee (f := 22) rfl ?_); refine goesL_ (some 27) rfl rfl Try.func22 (by kernel_rfl) rfl #[.int .i64 ((rd_L1 l0 x21_2).length : Int), .int .i64 1, .int .i64 24] rfl (by (try simp only [List.map_toArray, List.map_cons, List.map_nil]); first | done | rfl | (simp only [List.length_drop, List.length_take]; rfl)) ?_; (with_reducible refine (bids_in.calls ((rd_L1 l0 x21_2).length : Int) 1 24 true _ A10.out).mono ?_); rintro e w' ⟨rfl, ⟨nd, rfl⟩⟩; refine ⟨_, rfl, ?_⟩; have p103 : 0 ≤ (0 : Int) := (by omega); have q103 : 0 < (l0.length : Int) := of_decide_eq_true (by first | (with_reducible assumption) | assumption); obtain ⟨ad103, A103_0, c103_0, e103, hx103_0, hl103_0, hi103_0⟩ := at_L1 HR0.out 0 p103 q103; obtain rfl : ad101 = ad103 := (by injection e103); have qi103 : (0 < l0.length) = True := eq_true (by omega); (try rw [show ((0 : Int)).toNat = 0 from rfl] at hx103_0); (try rw [Addr.add_zero'] at hx103_0); have HR103_0 := Aside0.mk hi103_0; have HC103_0 := Aside0.mk hl103_0; clear hi103_0 hl103_0; replace p103 := eq_true p103; replace q103 := eq_true q103))
                        go_meet
                        case rel => exact ⟨_, ((((rd_L1 l0 x21_2).length : Int) != ((rd_L1 l0 0).length : Int))), (by first | rfl | (simp; done) | (simp [*]; done)), H', ⟨by have := HJ2.out; have := HK2.out; first | omega | exact Nat.le_refl _⟩, by repeat (first | exact Drawn0.refl _ | apply Drawn0.step)⟩
                      · rw [if_neg c12] at H
                        exact absurd H (by simp)
                    · replace c11 := Bool.eq_false_iff.mpr c11
                      subst c11
                      have H1 : (bids_isRecord.j2 k2 l0 (rd_L1 l0 x21_2) l0 (l0.length : Int) x21_2 true) = some r := by rw [if_neg (show ¬ (false = true) by decide)] at H; exact H
                      clear H
                      have H := H1
                      clear H1
                      have H' := Aside0.mk H
                      clear H
                      go_wp2_with (first | ((with_reducible refine gate_callee (f := 22) rfl ?_); refine goesL_ (some 27) rfl rfl Try.func22 (by kernel_rfl) rfl #[.int .i64 ((rd_L1 l0 x21_2).length : Int), .int .i64 1, .int .i64 24] rfl (by (try simp only [List.map_toArray, List.map_cons, List.map_nil]); first | done | rfl | (simp only [List.length_drop, List.length_take]; rfl)) ?_; (with_reducible refine (bids_in.calls ((rd_L1 l0 x21_2).length : Int) 1 24 false _ A10.out).mono ?_); rintro e w' ⟨rfl, ⟨nd, rfl⟩⟩; refine ⟨_, rfl, ?_⟩))
                      go_meet
                      case rel => exact ⟨_, (true), (by first | rfl | (simp; done) | (simp [*]; done)), H', ⟨by have := HJ2.out; have := HK2.out; first | omega | exact Nat.le_refl _⟩, by repeat (first | exact Drawn0.refl _ | apply Drawn0.step)⟩
                  case rest =>
                    clear HC9
                    try clear c1
                    try clear p1
                    try clear q1
                    try clear hx1
                    try clear qi1
                    try clear c2
                    try clear p2
                    try clear c4
                    try clear c4b0
                    try clear c4b1
                    try clear c5
                    try clear c6
                    try clear c6b0
                    try clear c7
                    try clear c7b0
                    try clear c8
                    try clear c8b0
                    try clear c10
                    try clear p10
                    try clear q10
                    try clear hx10
                    try clear qi10
                    try clear c11
                    try clear c12
                    try clear c12b0
                    try clear c12b1
                    try clear hx101_0
                    try clear hx103_0
                    try clear p101
                    try clear p103
                    try clear p2
                    try clear q101
                    try clear q103
                    obtain ⟨kq, x37_8, rfl, HA, HJ8, ⟨mc8, rfl⟩⟩ := hcut
                    cases kq with
                    | zero => exact absurd HA.out (by simp [bids_isRecord.j2])
                    | succ kj8 =>
                      have H := HA.out
                      clear HA
                      simp only [bids_isRecord.j2] at H
                      by_cases c13 : x37_8 = true
                      · subst c13
                        have H1 : (some false) = some r := by first | (rw [if_pos rfl] at H; exact H) | (rw [if_pos trivial] at H; exact H)
                        clear H
                        have H := H1
                        clear H1
                        obtain rfl := Option.some.inj H
                        simp only [Option.some.injEq, Prod.mk.injEq] at H
                        obtain ⟨rfl⟩ := H
                        go_wp2
                        go_ret
                        exact ⟨by first | rfl | (simp; done) | (simp [*]; done), by repeat (first | exact Drawn0.refl _ | apply Drawn0.step)⟩
                      · replace c13 := Bool.eq_false_iff.mpr c13
                        subst c13
                        have H1 : (bids_isRecord.l1 kj8 l0 l0 (l0.length : Int) x21_2 (rd_L1 l0 x21_2) ((rd_L1 l0 x21_2).length : Int) 0) = some r := by rw [if_neg (show ¬ (false = true) by decide)] at H; exact H
                        clear H
                        have H := H1
                        clear H1
                        have H' := Aside0.mk H
                        clear H
                        go_wp2
                        go_loopg [40] kj8 (fun kq v40 w' => ∃ (x40_4 : Int), v40 = .int .i64 x40_4 ∧ Aside0 (bids_isRecord.l1 kq l0 l0 (l0.length : Int) x21_2 (rd_L1 l0 x21_2) ((rd_L1 l0 x21_2).length : Int) x40_4 = some r) ∧ Aside0 (kq ≤ kj8) ∧ Drawn0 w w')
                        case atStart => exact ⟨(0), (by first | rfl | (simp; done) | (simp [*]; done)), H', ⟨Nat.le_refl _⟩, by repeat (first | exact Drawn0.refl _ | apply Drawn0.step)⟩
                        case round =>
                          clear H'
                          try clear c1
                          try clear p1
                          try clear q1
                          try clear hx1
                          try clear qi1
                          try clear c2
                          try clear p2
                          try clear c4
                          try clear c4b0
                          try clear c4b1
                          try clear c5
                          try clear c6
                          try clear c6b0
                          try clear c7
                          try clear c7b0
                          try clear c8
                          try clear c8b0
                          try clear c10
                          try clear p10
                          try clear q10
                          try clear hx10
                          try clear qi10
                          try clear c11
                          try clear c12
                          try clear c12b0
                          try clear c12b1
                          try clear c13
                          try clear hx101_0
                          try clear hx103_0
                          try clear p1
                          try clear p10
                          try clear p101
                          try clear p103
                          try clear p2
                          try clear q1
                          try clear q10
                          try clear q101
                          try clear q103
                          obtain ⟨x40_4, rfl, HA, HK4, ⟨m4, rfl⟩⟩ := hrel
                          cases gk with
                          | zero => exact absurd HA.out (by simp [bids_isRecord.l1])
                          | succ k4 =>
                            have H := HA.out
                            clear HA
                            simp only [bids_isRecord.l1] at H
                            by_cases c14 : x40_4 < ((rd_L1 l0 x21_2).length : Int)
                            · rw [if_pos c14] at H
                              have c14b0 : decide (x40_4 < ((rd_L1 l0 x21_2).length : Int)) = true := decide_eq_true c14
                              clear c14
                              by_cases c15 : 0 ≤ x40_4
                              · rw [if_pos c15] at H
                                have c15b0 : decide (0 ≤ x40_4) = true := decide_eq_true c15
                                clear c15
                                by_cases c16 : x40_4 < ((rd_L1 l0 x21_2).length : Int)
                                · rw [if_pos c16] at H
                                  have c16b0 : decide (x40_4 < ((rd_L1 l0 x21_2).length : Int)) = true := decide_eq_true c16
                                  clear c16
                                  replace H := Option.bind_eq_some_iff.mp H
                                  obtain ⟨t105, A170, H⟩ := H
                                  replace H : (if t105 = true then (bids_isRecord.l1 k4 l0 l0 (l0.length : Int) x21_2 (rd_L1 l0 x21_2) ((rd_L1 l0 x21_2).length : Int) (wrap64 (x40_4 + 1))) else (some false)) = some r := H
                                  have A17 := Aside0.mk A170
                                  clear A170
                                  by_cases c18 : t105 = true
                                  · subst c18
                                    have H1 : (bids_isRecord.l1 k4 l0 l0 (l0.length : Int) x21_2 (rd_L1 l0 x21_2) ((rd_L1 l0 x21_2).length : Int) (wrap64 (x40_4 + 1))) = some r := by first | (rw [if_pos rfl] at H; exact H) | (rw [if_pos trivial] at H; exact H)
                                    clear H
                                    have H := H1
                                    clear H1
                                    have H' := Aside0.mk H
                                    clear H
                                    have p104 : 0 ≤ (x40_4 : Int) := of_decide_eq_true (by first | (with_reducible assumption) | assumption)
                                    have q104 : x40_4 < ((rd_L1 l0 x21_2).length : Int) := of_decide_eq_true (by first | (with_reducible assumption) | assumption)
                                    obtain ⟨ad104, e104, hx104_0⟩ := Kd.at_int HR101_0.out x40_4 p104 q104
                                    cases e104
                                    replace p104 := eq_true p104
                                    replace q104 := eq_true q104
                                    go_wp2_with (first | ((with_reducible refine gate_callee (f := 22) rfl ?_); refine goesL_ (some 45) rfl rfl Try.func22 (by kernel_rfl) rfl #[.int .i64 (rd (rd_L1 l0 x21_2) x40_4), .int .i64 0, .int .i64 1000] rfl (by (try simp only [List.map_toArray, List.map_cons, List.map_nil]); first | done | rfl | (simp only [List.length_drop, List.length_take]; rfl)) ?_; (with_reducible refine (bids_in.calls (rd (rd_L1 l0 x21_2) x40_4) 0 1000 true _ A17.out).mono ?_); rintro e w' ⟨rfl, ⟨nd, rfl⟩⟩; refine ⟨_, rfl, ?_⟩))
                                    go_roundg k4
                                    case measure => have := HJ2.out; have := HK2.out; have := HJ8.out; have := HK4.out; omega
                                    case rel => exact ⟨(wrap64 (x40_4 + 1)), (by first | rfl | (simp; done) | (simp [*]; done)), H', ⟨by have := HJ2.out; have := HK2.out; have := HJ8.out; have := HK4.out; omega⟩, by repeat (first | exact Drawn0.refl _ | apply Drawn0.step)⟩
                                  · replace c18 := Bool.eq_false_iff.mpr c18
                                    subst c18
                                    have H1 : (some false) = some r := by rw [if_neg (show ¬ (false = true) by decide)] at H; exact H
                                    clear H
                                    have H := H1
                                    clear H1
                                    obtain rfl := Option.some.inj H
                                    simp only [Option.some.injEq, Prod.mk.injEq] at H
                                    obtain ⟨rfl⟩ := H
                                    have p104 : 0 ≤ (x40_4 : Int) := of_decide_eq_true (by first | (with_reducible assumption) | assumption)
                                    have q104 : x40_4 < ((rd_L1 l0 x21_2).length : Int) := of_decide_eq_true (by first | (with_reducible assumption) | assumption)
                                    obtain ⟨ad104, e104, hx104_0⟩ := Kd.at_int HR101_0.out x40_4 p104 q104
                                    cases e104
                                    replace p104 := eq_true p104
                                    replace q104 := eq_true q104
                                    go_wp2_with (first | ((with_reducible refine gate_callee (f := 22) rfl ?_); refine goesL_ (some 45) rfl rfl Try.func22 (by kernel_rfl) rfl #[.int .i64 (rd (rd_L1 l0 x21_2) x40_4), .int .i64 0, .int .i64 1000] rfl (by (try simp only [List.map_toArray, List.map_cons, List.map_nil]); first | done | rfl | (simp only [List.length_drop, List.length_take]; rfl)) ?_; (with_reducible refine (bids_in.calls (rd (rd_L1 l0 x21_2) x40_4) 0 1000 false _ A17.out).mono ?_); rintro e w' ⟨rfl, ⟨nd, rfl⟩⟩; refine ⟨_, rfl, ?_⟩))
                                    go_ret
                                    exact ⟨by first | rfl | (simp; done) | (simp [*]; done), by repeat (first | exact Drawn0.refl _ | apply Drawn0.step)⟩
                                · rw [if_neg c16] at H
                                  exact absurd H (by simp)
                              · rw [if_neg c15] at H
                                exact absurd H (by simp)
                            · rw [if_neg c14] at H
                              have c14b0 : decide (x40_4 < ((rd_L1 l0 x21_2).length : Int)) = false := decide_eq_false c14
                              clear c14
                              have H' := Aside0.mk H
                              clear H
                              go_wp2
                              go_roundg k4
                              case measure => have := HJ2.out; have := HK2.out; have := HJ8.out; have := HK4.out; omega
                              case rel => exact ⟨(wrap64 (x21_2 + 1)), (by first | rfl | (simp; done) | (simp [*]; done)), H', ⟨by have := HJ2.out; have := HK2.out; have := HJ8.out; have := HK4.out; omega⟩, by repeat (first | exact Drawn0.refl _ | apply Drawn0.step)⟩
                · rw [if_neg c8] at H
                  exact absurd H (by simp)
              · rw [if_neg c7] at H
                exact absurd H (by simp)
            · rw [if_neg c6] at H
              have c6b0 : decide (x21_2 < (l0.length : Int)) = false := decide_eq_false c6
              clear c6
              obtain rfl := Option.some.inj H
              simp only [Option.some.injEq, Prod.mk.injEq] at H
              obtain ⟨rfl⟩ := H
              go_wp2
              go_ret
              exact ⟨by first | rfl | (simp; done) | (simp [*]; done), by repeat (first | exact Drawn0.refl _ | apply Drawn0.step)⟩

-- NOT PRINTED: function 26 (bids_counting)

/-! ### bids_sum: function 27 -/
def bids_sum.l0 : Nat → Int → List Int → Int → Int → Option (Int)
  | 0, _, _, _, _ => none
  | k + 1, x3, x6, x7, x8 => if x8 < x7 then (if 0 ≤ x8 then (if x8 < (x6.length : Int) then (bids_sum.l0 k (wrap64 (x3 + (rd x6 x8))) x6 x7 (wrap64 (x8 + 1))) else (none)) else (none)) else (some x3)
def bids_sum.f (k : Nat) (l0 : List Int) : Option (Int) := bids_sum.l0 k 0 l0 (l0.length : Int) 0
theorem bids_sum.mono_l : ∀ k, (∀ y0 y1 y2 y3, LeO (bids_sum.l0 k y0 y1 y2 y3) (bids_sum.l0 (k + 1) y0 y1 y2 y3))
  | 0 => fun _ _ _ _ r h => by simp [bids_sum.l0] at h
  | k + 1 => by
    have ih0 := bids_sum.mono_l k
    · intro y0 y1 y2 y3
      unfold bids_sum.l0
      repeat' first
      | (with_reducible exact ih0 _ _ _ _)
      | (with_reducible exact LeO.refl _)
      | (with_reducible exact LeO.none _)
      | (with_reducible refine LeO.ite ?_ ?_)
      | (with_reducible refine LeO.bind ?_ (fun _ => ?_))
      | exact ih0 _ _ _ _
      | exact LeO.none _
      | refine LeO.ite ?_ ?_
      | refine LeO.bind ?_ (fun _ => ?_)
theorem bids_sum.mono : ∀ a0 k, LeO (bids_sum.f k a0) (bids_sum.f (k + 1) a0) := by
  intro a0 k
  have ih0 := bids_sum.mono_l k
  unfold bids_sum.f
  repeat' first
      | (with_reducible exact ih0 _ _ _ _)
      | (with_reducible exact LeO.refl _)
      | (with_reducible exact LeO.none _)
      | (with_reducible refine LeO.ite ?_ ?_)
      | (with_reducible refine LeO.bind ?_ (fun _ => ?_))
      | exact ih0 _ _ _ _
      | exact LeO.none _
      | refine LeO.ite ?_ ?_
      | refine LeO.bind ?_ (fun _ => ?_)
set_option maxHeartbeats 8000000 in
set_option maxRecDepth 100000 in
theorem bids_sum.calls (k : Nat) (A0 : Option Addr) (c0 : Nat) (l0 : List Int) (r : Int) (w : World) (hr0 : Kd.C (Kd.int .i64) w A0 l0.length l0) (hc0 : l0.length ≤ c0) (h : bids_sum.f k l0 = some r) :
    Calls Try.prog 27 #[.slice A0 l0.length c0] w fun e w' => e = .returned (.int .i64 r) ∧ Drawn0 w w' := by
  have HR0 := Aside0.mk hr0
  have HC0 := Aside0.mk hc0
  clear hr0 hc0
  have H : (bids_sum.l0 k 0 l0 (l0.length : Int) 0) = some r := h
  clear h
  have H' := Aside0.mk H
  clear H
  go_enter Try.func27, Try.ntmps27
  go_wp2
  go_loopg [3, 8] k (fun kq v3 v8 w' => ∃ (x3_1 : Int) (x8_1 : Int), v3 = .int .i64 x3_1 ∧ v8 = .int .i64 x8_1 ∧ Aside0 (bids_sum.l0 kq x3_1 l0 (l0.length : Int) x8_1 = some r) ∧ Aside0 (kq ≤ k) ∧ Drawn0 w w')
  case atStart => exact ⟨(0), (0), (by first | rfl | (simp; done) | (simp [*]; done)), (by first | rfl | (simp; done) | (simp [*]; done)), H', ⟨Nat.le_refl _⟩, by repeat (first | exact Drawn0.refl _ | apply Drawn0.step)⟩
  case round =>
    clear H'
    obtain ⟨x3_1, x8_1, rfl, rfl, HA, HK1, ⟨m1, rfl⟩⟩ := hrel
    cases gk with
    | zero => exact absurd HA.out (by simp [bids_sum.l0])
    | succ k1 =>
      have H := HA.out
      clear HA
      simp only [bids_sum.l0] at H
      by_cases c2 : x8_1 < (l0.length : Int)
      · rw [if_pos c2] at H
        have c2b0 : decide (x8_1 < (l0.length : Int)) = true := decide_eq_true c2
        clear c2
        by_cases c3 : 0 ≤ x8_1
        · rw [if_pos c3] at H
          have c3b0 : decide (0 ≤ x8_1) = true := decide_eq_true c3
          clear c3
          by_cases c4 : x8_1 < (l0.length : Int)
          · rw [if_pos c4] at H
            have c4b0 : decide (x8_1 < (l0.length : Int)) = true := decide_eq_true c4
            clear c4
            have H' := Aside0.mk H
            clear H
            have p106 : 0 ≤ (x8_1 : Int) := of_decide_eq_true (by first | (with_reducible assumption) | assumption)
            have q106 : x8_1 < (l0.length : Int) := of_decide_eq_true (by first | (with_reducible assumption) | assumption)
            obtain ⟨ad106, e106, hx106_0⟩ := Kd.at_int HR0.out x8_1 p106 q106
            cases e106
            replace p106 := eq_true p106
            replace q106 := eq_true q106
            go_wp2
            go_roundg k1
            case measure => have := HK1.out; omega
            case rel => exact ⟨(wrap64 (x3_1 + (rd l0 x8_1))), (wrap64 (x8_1 + 1)), (by first | rfl | (simp; done) | (simp [*]; done)), (by first | rfl | (simp; done) | (simp [*]; done)), H', ⟨by have := HK1.out; omega⟩, by repeat (first | exact Drawn0.refl _ | apply Drawn0.step)⟩
          · rw [if_neg c4] at H
            exact absurd H (by simp)
        · rw [if_neg c3] at H
          exact absurd H (by simp)
      · rw [if_neg c2] at H
        have c2b0 : decide (x8_1 < (l0.length : Int)) = false := decide_eq_false c2
        clear c2
        obtain rfl := Option.some.inj H
        simp only [Option.some.injEq, Prod.mk.injEq] at H
        obtain ⟨rfl⟩ := H
        go_wp2
        go_ret
        exact ⟨by first | rfl | (simp; done) | (simp [*]; done), by repeat (first | exact Drawn0.refl _ | apply Drawn0.step)⟩

/-! ### bids_baseline: function 23 -/
theorem wrap_id_ (a : Int) (h : -9223372036854775808 ≤ a) (h' : a ≤ 9223372036854775807) : wrap64 a = a := by unfold wrap64; omega

/-- The numbers of one row are looked at, from j on. -/
theorem isRecord_row (x0 x19 x38 : List (List Int)) (row : List Int) (x20 x21 : Int) (hl : row.length ≤ 24) : ∀ (n k j : Nat), j + n = row.length →
    bids_isRecord.l1 (k + n + 1) x0 x19 x20 x21 row (row.length : Int) (j : Int) = if (∀ v ∈ row.drop j, 0 ≤ v ∧ v ≤ 1000) then bids_isRecord.l0 k x0 x19 x20 (wrap64 (x21 + 1)) else some false
  | 0, k, j, h => by
    rw [show k + 0 + 1 = k + 1 by omega, bids_isRecord.l1, if_neg (by omega), if_pos (by rw [List.drop_of_length_le (by omega)]; intro v hv; cases hv)]
  | n + 1, k, j, h => by
    have hj : j < row.length := by omega
    have hr : rd row (j : Int) = row[j] := by unfold rd; rw [Int.toNat_natCast, List.getD_eq_getElem?_getD, List.getElem?_eq_getElem hj]; rfl
    have hin : bids_in.f (rd row (j : Int)) 0 1000 = some (decide (0 ≤ row[j] ∧ row[j] ≤ 1000)) := by
      rw [hr]
      unfold bids_in.f
      split
      · congr 1; exact decide_eq_decide.2 (by omega)
      · rw [decide_eq_false (by omega)]
    rw [show k + (n + 1) + 1 = (k + n + 1) + 1 by omega, bids_isRecord.l1, if_pos (by omega), if_pos (by omega), if_pos (by omega), hin]
    simp only [Option.bind_some]
    have hd : row.drop j = row[j] :: row.drop (j + 1) := List.drop_eq_getElem_cons hj
    by_cases c : 0 ≤ row[j] ∧ row[j] ≤ 1000
    · rw [if_pos (decide_eq_true c), wrap_id_ _ (by omega) (by omega), show ((j : Int) + 1) = ((j + 1 : Nat) : Int) by omega, isRecord_row x0 x19 x38 row x20 x21 hl n k (j + 1) (by omega)]
      by_cases q : ∀ v ∈ row.drop (j + 1), 0 ≤ v ∧ v ≤ 1000
      · rw [if_pos q, if_pos (by rw [hd]; exact fun v hv => (List.mem_cons.1 hv).elim (fun e => e ▸ c) (q v))]
      · rw [if_neg q, if_neg (by rw [hd]; exact fun hh => q (fun v hv => hh v (List.mem_cons_of_mem _ hv)))]
    · rw [if_neg (by simpa using c), if_neg (by rw [hd]; exact fun hh => c (hh _ (List.mem_cons_self ..)))]

/-- The rows are looked at, from i on. -/
theorem isRecord_rows (x0 : List (List Int)) (hx : x0.length ≤ 60) : ∀ (n k i : Nat), i + n = x0.length →
    bids_isRecord.l0 (k + 27 * n + 1) x0 x0 (x0.length : Int) (i : Int) = some (decide (∀ d ∈ x0.drop i, (1 ≤ d.length ∧ d.length ≤ 24 ∧ d.length = (x0.headD []).length) ∧ ∀ v ∈ d, 0 ≤ v ∧ v ≤ 1000))
  | 0, k, i, h => by
    rw [show k + 27 * 0 + 1 = k + 1 by omega, bids_isRecord.l0, if_neg (by omega), decide_eq_true (by rw [List.drop_of_length_le (by omega)]; intro v hv; cases hv)]
  | n + 1, k, i, h => by
    have hi : i < x0.length := by omega
    have hr : rd_L1 x0 (i : Int) = x0[i] := by unfold rd_L1; rw [Int.toNat_natCast, List.getD_eq_getElem?_getD, List.getElem?_eq_getElem hi]; rfl
    have h0 : rd_L1 x0 0 = x0.headD [] := by unfold rd_L1; cases x0 with | nil => rfl | cons a l => rfl
    have hd : x0.drop i = x0[i] :: x0.drop (i + 1) := List.drop_eq_getElem_cons hi
    have hin : bids_in.f ((x0[i]).length : Int) 1 24 = some (decide (1 ≤ (x0[i]).length ∧ (x0[i]).length ≤ 24)) := by
      unfold bids_in.f
      split
      · congr 1; exact decide_eq_decide.2 (by omega)
      · rw [decide_eq_false (by omega)]
    rw [show k + 27 * (n + 1) + 1 = (k + 27 * n + 26 + 1) + 1 by omega, bids_isRecord.l0, if_pos (by omega), if_pos (by omega), if_pos (by omega), hr, hin]
    simp only [Option.bind_some]
    by_cases c : 1 ≤ (x0[i]).length ∧ (x0[i]).length ≤ 24
    · rw [if_pos (decide_eq_true c), if_pos (by omega), h0, bids_isRecord.j2]
      by_cases e : (x0[i]).length = (x0.headD []).length
      · rw [if_neg (by simp [e]), show k + 27 * n + 26 = (k + 27 * n + 1 + (24 - (x0[i]).length)) + (x0[i]).length + 1 by omega]
        have hrow := isRecord_row x0 x0 x0 x0[i] (x0.length : Int) (i : Int) c.2 (x0[i]).length (k + 27 * n + 1 + (24 - (x0[i]).length)) 0 (by omega)
        rw [show ((0 : Nat) : Int) = 0 from rfl] at hrow
        rw [hrow, List.drop_zero, wrap_id_ _ (by omega) (by omega), show ((i : Int) + 1) = ((i + 1 : Nat) : Int) by omega,
          show k + 27 * n + 1 + (24 - (x0[i]).length) = (k + (24 - (x0[i]).length)) + 27 * n + 1 by omega, isRecord_rows x0 hx n (k + (24 - (x0[i]).length)) (i + 1) (by omega)]
        by_cases q : ∀ v ∈ x0[i], 0 ≤ v ∧ v ≤ 1000
        · rw [if_pos q]
          congr 1
          exact decide_eq_decide.2 ⟨fun hh d hm => by rw [hd] at hm; exact (List.mem_cons.1 hm).elim (fun e' => e' ▸ ⟨⟨c.1, c.2, e⟩, q⟩) (hh d), fun hh d hm => hh d (by rw [hd]; exact List.mem_cons_of_mem _ hm)⟩
        · rw [if_neg q, decide_eq_false (fun hh => q (hh x0[i] (by rw [hd]; exact List.mem_cons_self ..)).2)]
      · rw [if_pos (bne_iff_ne.2 (fun q => e (by omega))), decide_eq_false (fun hh => e (hh x0[i] (by rw [hd]; exact List.mem_cons_self ..)).1.2.2)]
    · rw [if_neg (by simpa using c), bids_isRecord.j2, if_pos rfl, decide_eq_false (fun hh => c (by have := (hh x0[i] (by rw [hd]; exact List.mem_cons_self ..)).1; exact ⟨this.1, this.2.1⟩))]

/-- bids.isRecord. -/
theorem isRecord_eq (l0 : List (List Int)) (l1 : List Bool) : bids_isRecord.f 2000 l0 l1 = some (Hand.recB l0 l1) := by
  unfold bids_isRecord.f Hand.recB
  by_cases c : (l0.length : Int) > 60
  · rw [if_pos c, bids_isRecord.j0, if_pos rfl, decide_eq_false (by omega)]
  rw [if_neg c, bids_isRecord.j0]
  by_cases e : l1.length = l0.length
  · rw [if_neg (by simp [e])]
    have h := isRecord_rows l0 (by omega) l0.length (1998 - 27 * l0.length) 0 (by omega)
    rw [show 1998 - 27 * l0.length + 27 * l0.length + 1 = 1999 by omega, List.drop_zero, show ((0 : Nat) : Int) = 0 from rfl] at h
    rw [h]
    congr 1
    exact decide_eq_decide.2 ⟨fun hh => ⟨by omega, e, hh⟩, fun hh => hh.2.2⟩
  · rw [if_pos (bne_iff_ne.2 (fun q => e (by omega))), decide_eq_false (fun hh => e hh.2.1)]

/-- A valid record in memory. -/
theorem rec_of {w : World} {A0 A1 : Option Addr} {l0 : List (List Int)} {l1 : List Bool} (hr0 : Kd.C (Kd.slice 3 (Kd.int .i64)) w A0 l0.length l0) (hr1 : Kd.C Kd.bool w A1 l1.length l1) (h : Hand.recB l0 l1 = true) (hne : 0 < l0.length) :
    ∃ R : List Hand.Row, R.map (·.xs) = l0 ∧ Hand.Rec w A0 R A1 l1 (l0.headD []).length := by
  have h := of_decide_eq_true h
  obtain ⟨R, hl, hq⟩ := Hand.list_of (fun i (s : Hand.Row) => l0[i]? = some s.xs ∧ ∃ ad, A0 = some ad ∧ w.cell? (ad.add i) = some (.slice s.a s.xs.length s.c) ∧ Kd.C (Kd.int .i64) w s.a s.xs.length s.xs) l0.length (fun i hi => by
    obtain ⟨ad, A, c, e, hc, _, hC⟩ := at_L1 hr0 (i : Int) (by omega) (by omega)
    have hr : rd_L1 l0 (i : Int) = l0[i] := by unfold rd_L1; rw [Int.toNat_natCast, List.getD_eq_getElem?_getD, List.getElem?_eq_getElem hi]; rfl
    rw [hr] at hc hC
    exact ⟨⟨A, l0[i], c⟩, List.getElem?_eq_getElem hi, ad, e, by rw [Int.toNat_natCast] at hc; exact hc, hC⟩)
  have hm : R.map (·.xs) = l0 := by
    apply List.ext_getElem?
    intro i
    rw [List.getElem?_map]
    cases hR : R[i]? with
    | none => rw [List.getElem?_eq_none_iff] at hR; rw [Option.map_none, List.getElem?_eq_none (by omega)]
    | some s => rw [(hq i s hR).1]; rfl
  have hmem : ∀ x ∈ R, x.xs ∈ l0 := fun x hx => by rw [← hm]; exact List.mem_map_of_mem hx
  have hhd : l0.headD [] ∈ l0 := by cases l0 with | nil => exact absurd hne (by simp) | cons a l => exact List.mem_cons_self ..
  refine ⟨R, hm, ⟨fun i x hx => ?_, fun x hx j v hv => ?_, fun i b hb => ?_, fun x hx => (h.2.2 _ (hmem x hx)).1.2.2, fun x hx => (h.2.2 _ (hmem x hx)).2, (h.2.2 _ hhd).1.1, (h.2.2 _ hhd).1.2.1, by omega, by omega⟩⟩
  · obtain ⟨_, ad, e, hc, _⟩ := hq i x hx
    exact ⟨ad, e, hc, World.block_lt_of_cell? _ _ hc⟩
  · obtain ⟨i, hi⟩ := List.getElem?_of_mem hx
    obtain ⟨_, _, _, _, hC⟩ := hq i x hi
    have hj : j < x.xs.length := (List.getElem?_eq_some_iff.1 hv).1
    obtain ⟨ad, e, hc⟩ := Kd.at_int hC (j : Int) (by omega) (by omega)
    have hr : rd x.xs (j : Int) = v := by unfold rd; rw [Int.toNat_natCast, List.getD_eq_getElem?_getD, hv]; rfl
    rw [hr, Int.toNat_natCast] at hc
    exact ⟨ad, e, hc, World.block_lt_of_cell? _ _ hc⟩
  · have hj : i < l1.length := (List.getElem?_eq_some_iff.1 hb).1
    obtain ⟨ad, e, hc⟩ := Kd.at_bool hr1 (i : Int) (by omega) (by omega)
    have hr : rdOf false l1 (i : Int) = b := by unfold rdOf; rw [Int.toNat_natCast, List.getD_eq_getElem?_getD, hb]; rfl
    rw [hr, Int.toNat_natCast] at hc
    exact ⟨ad, e, hc, World.block_lt_of_cell? _ _ hc⟩

def bids_baseline.f (l0 : List (List Int)) (l1 : List Bool) (a2 a3 : Int) : Option (Int × Int) := Hand.baseF l0 l1 a2 a3
theorem bids_baseline.calls (A0 : Option Addr) (c0 : Nat) (l0 : List (List Int)) (A1 : Option Addr) (c1 : Nat) (l1 : List Bool) (a2 a3 r1 r2 : Int) (w : World) (hr0 : Kd.C (Kd.slice 3 (Kd.int .i64)) w A0 l0.length l0) (hc0 : l0.length ≤ c0) (hr1 : Kd.C Kd.bool w A1 l1.length l1) (hc1 : l1.length ≤ c1) (h : bids_baseline.f l0 l1 a2 a3 = some (r1, r2)) :
    Calls Try.prog 23 #[.slice A0 l0.length c0, .slice A1 l1.length c1, .int .i64 a2, .int .i64 a3] w fun e w' => e = .returned (.tuple #[.int .i64 r1, .int .i64 r2]) ∧ Below w.heap.size w w' := by
  unfold bids_baseline.f Hand.baseF at h
  split at h
  · rename_i g
    obtain ⟨g1, g2, g3, g4, g5⟩ := g
    obtain ⟨day, rfl⟩ := Int.eq_ofNat_of_zero_le g2
    obtain ⟨sl, rfl⟩ := Int.eq_ofNat_of_zero_le g4
    have hne : 0 < l0.length := by cases l0 with | nil => simp at g5; omega | cons a l => simp
    obtain ⟨R, hm, hR⟩ := rec_of hr0 hr1 g1 hne
    have hlen : R.length = l0.length := by rw [← hm, List.length_map]
    have hb := Hand.baseline_any w A0 c0 R A1 c1 l1 _ day sl hR (by omega) (by omega) (r1, r2) (Lib.hid (by
      rw [Int.toNat_natCast, Int.toNat_natCast] at h
      rw [← Option.some.inj h, ← hm, ← Hand.down_map, List.map_map]
      rfl))
    rw [hlen] at hb
    exact hb
  · cases h

/-! ### bids_Baseline: function 11 -/
def bids_Baseline.f (k : Nat) (l0 : List (List Int)) (l1 : List Bool) (a2 : Int) (a3 : Int) : Option (Int × Int) := (bids_isRecord.f k l0 l1).bind fun t107 => (if t107 = true then (if (l0.length : Int) = 0 then (some (0, 1)) else ((bids_in.f a2 0 (l0.length : Int)).bind fun t108 => (if t108 = true then (if 0 < (l0.length : Int) then ((bids_in.f a3 0 (wrap64 (((rd_L1 l0 0).length : Int) - 1))).bind fun t110 => (if t110 = true then ((bids_baseline.f l0 l1 a2 a3).bind fun bt111 => (some (bt111.1, bt111.2))) else (some (0, 1)))) else (none)) else (some (0, 1))))) else (some (0, 1)))
theorem bids_Baseline.mono : ∀ a0 a1 a2 a3 k, LeO (bids_Baseline.f k a0 a1 a2 a3) (bids_Baseline.f (k + 1) a0 a1 a2 a3) := by
  intro a0 a1 a2 a3 k
  unfold bids_Baseline.f
  repeat' first
      | (with_reducible exact bids_isRecord.mono _ _ _)
      | (with_reducible exact LeO.refl _)
      | (with_reducible exact LeO.none _)
      | (with_reducible refine LeO.ite ?_ ?_)
      | (with_reducible refine LeO.bind ?_ (fun _ => ?_))
      | exact bids_isRecord.mono _ _ _
      | exact LeO.none _
      | refine LeO.ite ?_ ?_
      | refine LeO.bind ?_ (fun _ => ?_)
set_option maxHeartbeats 8000000 in
set_option maxRecDepth 100000 in
theorem bids_Baseline.calls (k : Nat) (A0 : Option Addr) (c0 : Nat) (l0 : List (List Int)) (A1 : Option Addr) (c1 : Nat) (l1 : List Bool) (a2 : Int) (a3 : Int) (r1 : Int) (r2 : Int) (w : World) (hr0 : Kd.C (Kd.slice 3 (Kd.int .i64)) w A0 l0.length l0) (hc0 : l0.length ≤ c0) (hr1 : Kd.C Kd.bool w A1 l1.length l1) (hc1 : l1.length ≤ c1) (h : bids_Baseline.f k l0 l1 a2 a3 = some (r1, r2)) :
    Calls Try.prog 11 #[.slice A0 l0.length c0, .slice A1 l1.length c1, .int .i64 a2, .int .i64 a3] w fun e w' => e = .returned (.tuple #[.int .i64 r1, .int .i64 r2]) ∧ Below w.heap.size w w' := by
  have HR0 := Aside0.mk hr0
  have HC0 := Aside0.mk hc0
  clear hr0 hc0
  have HR1 := Aside0.mk hr1
  have HC1 := Aside0.mk hc1
  clear hr1 hc1
  have HB := Aside0.mk (Below.refl w.heap.size w)
  have H : ((bids_isRecord.f k l0 l1).bind fun t107 => (if t107 = true then (if (l0.length : Int) = 0 then (some (0, 1)) else ((bids_in.f a2 0 (l0.length : Int)).bind fun t108 => (if t108 = true then (if 0 < (l0.length : Int) then ((bids_in.f a3 0 (wrap64 (((rd_L1 l0 0).length : Int) - 1))).bind fun t110 => (if t110 = true then ((bids_baseline.f l0 l1 a2 a3).bind fun bt111 => (some (bt111.1, bt111.2))) else (some (0, 1)))) else (none)) else (some (0, 1))))) else (some (0, 1)))) = some (r1, r2) := h
  clear h
  replace H := Option.bind_eq_some_iff.mp H
  obtain ⟨t107, A50, H⟩ := H
  replace H : (if t107 = true then (if (l0.length : Int) = 0 then (some (0, 1)) else ((bids_in.f a2 0 (l0.length : Int)).bind fun t108 => (if t108 = true then (if 0 < (l0.length : Int) then ((bids_in.f a3 0 (wrap64 (((rd_L1 l0 0).length : Int) - 1))).bind fun t110 => (if t110 = true then ((bids_baseline.f l0 l1 a2 a3).bind fun bt111 => (some (bt111.1, bt111.2))) else (some (0, 1)))) else (none)) else (some (0, 1))))) else (some (0, 1))) = some (r1, r2) := H
  have A5 := Aside0.mk A50
  clear A50
  by_cases c6 : t107 = true
  · subst c6
    have H1 : (if (l0.length : Int) = 0 then (some (0, 1)) else ((bids_in.f a2 0 (l0.length : Int)).bind fun t108 => (if t108 = true then (if 0 < (l0.length : Int) then ((bids_in.f a3 0 (wrap64 (((rd_L1 l0 0).length : Int) - 1))).bind fun t110 => (if t110 = true then ((bids_baseline.f l0 l1 a2 a3).bind fun bt111 => (some (bt111.1, bt111.2))) else (some (0, 1)))) else (none)) else (some (0, 1))))) = some (r1, r2) := by first | (rw [if_pos rfl] at H; exact H) | (rw [if_pos trivial] at H; exact H)
    clear H
    have H := H1
    clear H1
    by_cases c7 : (l0.length : Int) = 0
    · rw [if_pos c7] at H
      have c7b0 : ((l0.length : Int) == 0) = true := beq_iff_eq.mpr c7
      have c7b1 : ((l0.length : Int) != 0) = false := bne_eq_false_iff_eq.mpr c7
      clear c7
      simp only [Option.some.injEq, Prod.mk.injEq] at H
      obtain ⟨rfl, rfl⟩ := H
      go_enter Try.func11, Try.ntmps11
      go_wp2_with (first | ((with_reducible refine gate_callee (f := 21) rfl ?_); refine goesL_ (some 12) rfl rfl Try.func21 (by kernel_rfl) rfl #[.slice A0 l0.length c0, .slice A1 l1.length c1] rfl (by (try simp only [List.map_toArray, List.map_cons, List.map_nil]); first | done | rfl | (simp only [List.length_drop, List.length_take]; rfl)) ?_; (with_reducible refine (bids_isRecord.calls k _ _ l0 _ _ l1 true _ ?side1 ?side2 ?side3 ?side4 A5.out).mono ?_); (case side1 => repeat (first | exact HR0.out | (with_reducible refine Kd.C_alloc ?_ _) | (with_reducible refine Kd.C_drewN ?_ _) | (with_reducible refine Kd.C_drew ?_))); (case side2 => exact HC0.out); (case side3 => repeat (first | exact HR1.out | (with_reducible refine Kd.C_alloc ?_ _) | (with_reducible refine Kd.C_drewN ?_ _) | (with_reducible refine Kd.C_drew ?_))); (case side4 => exact HC1.out); rintro e w' ⟨rfl, ⟨nd, rfl⟩⟩; refine ⟨_, rfl, ?_⟩))
      go_ret2
      exact ⟨by first | rfl | (simp [errW_none, errW_some] <;> rfl) | (simp [*, errW_none, errW_some] <;> rfl), by repeat (first | (with_reducible first | exact HB.out | apply below_alloc | apply pw_below_drewN | apply below_drew1) | exact HB.out)⟩
    · rw [if_neg c7] at H
      have c7b0 : ((l0.length : Int) == 0) = false := beq_eq_false_iff_ne.mpr c7
      have c7b1 : ((l0.length : Int) != 0) = true := bne_iff_ne.mpr c7
      have c7b2 : ¬ (l0 = []) := fun h_ => c7 (by rw [h_]; rfl)
      replace H := Option.bind_eq_some_iff.mp H
      obtain ⟨t108, A80, H⟩ := H
      replace H : (if t108 = true then (if 0 < (l0.length : Int) then ((bids_in.f a3 0 (wrap64 (((rd_L1 l0 0).length : Int) - 1))).bind fun t110 => (if t110 = true then ((bids_baseline.f l0 l1 a2 a3).bind fun bt111 => (some (bt111.1, bt111.2))) else (some (0, 1)))) else (none)) else (some (0, 1))) = some (r1, r2) := H
      have A8 := Aside0.mk A80
      clear A80
      by_cases c9 : t108 = true
      · subst c9
        have H1 : (if 0 < (l0.length : Int) then ((bids_in.f a3 0 (wrap64 (((rd_L1 l0 0).length : Int) - 1))).bind fun t110 => (if t110 = true then ((bids_baseline.f l0 l1 a2 a3).bind fun bt111 => (some (bt111.1, bt111.2))) else (some (0, 1)))) else (none)) = some (r1, r2) := by first | (rw [if_pos rfl] at H; exact H) | (rw [if_pos trivial] at H; exact H)
        clear H
        have H := H1
        clear H1
        by_cases c10 : 0 < (l0.length : Int)
        · rw [if_pos c10] at H
          have c10b0 : decide (0 < (l0.length : Int)) = true := decide_eq_true c10
          have c10b1 : decide (0 < l0.length) = true := decide_eq_true (by omega)
          clear c10
          replace H := Option.bind_eq_some_iff.mp H
          obtain ⟨t110, A110, H⟩ := H
          replace H : (if t110 = true then ((bids_baseline.f l0 l1 a2 a3).bind fun bt111 => (some (bt111.1, bt111.2))) else (some (0, 1))) = some (r1, r2) := H
          have A11 := Aside0.mk A110
          clear A110
          by_cases c12 : t110 = true
          · subst c12
            have H1 : ((bids_baseline.f l0 l1 a2 a3).bind fun bt111 => (some (bt111.1, bt111.2))) = some (r1, r2) := by first | (rw [if_pos rfl] at H; exact H) | (rw [if_pos trivial] at H; exact H)
            clear H
            have H := H1
            clear H1
            replace H := Option.bind_eq_some_iff.mp H
            obtain ⟨⟨t111, t112⟩, A130, H⟩ := H
            replace H : (some (t111, t112)) = some (r1, r2) := H
            have A13 := Aside0.mk A130
            clear A130
            simp only [Option.some.injEq, Prod.mk.injEq] at H
            obtain ⟨rfl, rfl⟩ := H
            go_enter Try.func11, Try.ntmps11
            go_wp2_with (first | ((with_reducible refine gate_callee (f := 21) rfl ?_); refine goesL_ (some 12) rfl rfl Try.func21 (by kernel_rfl) rfl #[.slice A0 l0.length c0, .slice A1 l1.length c1] rfl (by (try simp only [List.map_toArray, List.map_cons, List.map_nil]); first | done | rfl | (simp only [List.length_drop, List.length_take]; rfl)) ?_; (with_reducible refine (bids_isRecord.calls k _ _ l0 _ _ l1 true _ ?side1 ?side2 ?side3 ?side4 A5.out).mono ?_); (case side1 => repeat (first | exact HR0.out | (with_reducible refine Kd.C_alloc ?_ _) | (with_reducible refine Kd.C_drewN ?_ _) | (with_reducible refine Kd.C_drew ?_))); (case side2 => exact HC0.out); (case side3 => repeat (first | exact HR1.out | (with_reducible refine Kd.C_alloc ?_ _) | (with_reducible refine Kd.C_drewN ?_ _) | (with_reducible refine Kd.C_drew ?_))); (case side4 => exact HC1.out); rintro e w' ⟨rfl, ⟨nd, rfl⟩⟩; refine ⟨_, rfl, ?_⟩) | (go_at_call 22; (with_reducible refine (bids_in.calls a2 0 (l0.length : Int) true _ A8.out).mono ?_); rintro e w' ⟨rfl, ⟨nd, rfl⟩⟩; have p109 : 0 ≤ (0 : Int) := (by omega); have q109 : 0 < (l0.length : Int) := of_decide_eq_true (by first | (with_reducible assumption) | assumption); obtain ⟨ad109, A109_0, c109_0, e109, hx109_0, hl109_0, hi109_0⟩ := at_L1 HR0.out 0 p109 q109; cases e109; have qi109 : (0 < l0.length) = True := eq_true (by omega); (try rw [show ((0 : Int)).toNat = 0 from rfl] at hx109_0); (try rw [Addr.add_zero'] at hx109_0); have HR109_0 := Aside0.mk hi109_0; have HC109_0 := Aside0.mk hl109_0; clear hi109_0 hl109_0; replace p109 := eq_true p109; replace q109 := eq_true q109) | (go_at_call 22; (with_reducible refine (bids_in.calls a3 0 (wrap64 (((rd_L1 l0 0).length : Int) - 1)) true _ A11.out).mono ?_); rintro e w' ⟨rfl, ⟨nd, rfl⟩⟩) | ((with_reducible refine gate_callee (f := 23) rfl ?_); refine goesL_ (some 40) rfl rfl Try.func23 (by kernel_rfl) rfl #[.slice (some ad109) l0.length c0, .slice A1 l1.length c1, .int .i64 a2, .int .i64 a3] rfl (by (try simp only [List.map_toArray, List.map_cons, List.map_nil]); first | done | rfl | (simp only [List.length_drop, List.length_take]; rfl)) ?_; (with_reducible refine (bids_baseline.calls _ _ l0 _ _ l1 a2 a3 t111 t112 _ ?side1 ?side2 ?side3 ?side4 A13.out).mono ?_); (case side1 => repeat (first | exact HR0.out | (with_reducible refine Kd.C_alloc ?_ _) | (with_reducible refine Kd.C_drewN ?_ _) | (with_reducible refine Kd.C_drew ?_))); (case side2 => exact HC0.out); (case side3 => repeat (first | exact HR1.out | (with_reducible refine Kd.C_alloc ?_ _) | (with_reducible refine Kd.C_drewN ?_ _) | (with_reducible refine Kd.C_drew ?_))); (case side4 => exact HC1.out); rintro e w14 ⟨rfl, hb⟩; refine ⟨_, rfl, ?_⟩; have n0_ := Aside0.mk (below_step (by repeat (first | (with_reducible first | exact HB.out | apply below_alloc | apply pw_below_drewN | apply below_drew1) | exact HB.out)) hb); clear HB; have HB := n0_; clear n0_; (try clear hb); (try clear hb2); (try clear hk); (try clear hi)))
            go_ret2
            exact ⟨by first | rfl | (simp [errW_none, errW_some] <;> rfl) | (simp [*, errW_none, errW_some] <;> rfl), by repeat (first | (with_reducible first | exact HB.out | apply below_alloc | apply pw_below_drewN | apply below_drew1) | exact HB.out)⟩
          · replace c12 := Bool.eq_false_iff.mpr c12
            subst c12
            have H1 : (some (0, 1)) = some (r1, r2) := by rw [if_neg (show ¬ (false = true) by decide)] at H; exact H
            clear H
            have H := H1
            clear H1
            simp only [Option.some.injEq, Prod.mk.injEq] at H
            obtain ⟨rfl, rfl⟩ := H
            go_enter Try.func11, Try.ntmps11
            go_wp2_with (first | ((with_reducible refine gate_callee (f := 21) rfl ?_); refine goesL_ (some 12) rfl rfl Try.func21 (by kernel_rfl) rfl #[.slice A0 l0.length c0, .slice A1 l1.length c1] rfl (by (try simp only [List.map_toArray, List.map_cons, List.map_nil]); first | done | rfl | (simp only [List.length_drop, List.length_take]; rfl)) ?_; (with_reducible refine (bids_isRecord.calls k _ _ l0 _ _ l1 true _ ?side1 ?side2 ?side3 ?side4 A5.out).mono ?_); (case side1 => repeat (first | exact HR0.out | (with_reducible refine Kd.C_alloc ?_ _) | (with_reducible refine Kd.C_drewN ?_ _) | (with_reducible refine Kd.C_drew ?_))); (case side2 => exact HC0.out); (case side3 => repeat (first | exact HR1.out | (with_reducible refine Kd.C_alloc ?_ _) | (with_reducible refine Kd.C_drewN ?_ _) | (with_reducible refine Kd.C_drew ?_))); (case side4 => exact HC1.out); rintro e w' ⟨rfl, ⟨nd, rfl⟩⟩; refine ⟨_, rfl, ?_⟩) | (go_at_call 22; (with_reducible refine (bids_in.calls a2 0 (l0.length : Int) true _ A8.out).mono ?_); rintro e w' ⟨rfl, ⟨nd, rfl⟩⟩; have p109 : 0 ≤ (0 : Int) := (by omega); have q109 : 0 < (l0.length : Int) := of_decide_eq_true (by first | (with_reducible assumption) | assumption); obtain ⟨ad109, A109_0, c109_0, e109, hx109_0, hl109_0, hi109_0⟩ := at_L1 HR0.out 0 p109 q109; cases e109; have qi109 : (0 < l0.length) = True := eq_true (by omega); (try rw [show ((0 : Int)).toNat = 0 from rfl] at hx109_0); (try rw [Addr.add_zero'] at hx109_0); have HR109_0 := Aside0.mk hi109_0; have HC109_0 := Aside0.mk hl109_0; clear hi109_0 hl109_0; replace p109 := eq_true p109; replace q109 := eq_true q109) | (go_at_call 22; (with_reducible refine (bids_in.calls a3 0 (wrap64 (((rd_L1 l0 0).length : Int) - 1)) false _ A11.out).mono ?_); rintro e w' ⟨rfl, ⟨nd, rfl⟩⟩))
            go_ret2
            exact ⟨by first | rfl | (simp [errW_none, errW_some] <;> rfl) | (simp [*, errW_none, errW_some] <;> rfl), by repeat (first | (with_reducible first | exact HB.out | apply below_alloc | apply pw_below_drewN | apply below_drew1) | exact HB.out)⟩
        · rw [if_neg c10] at H
          exact absurd H (by simp)
      · replace c9 := Bool.eq_false_iff.mpr c9
        subst c9
        have H1 : (some (0, 1)) = some (r1, r2) := by rw [if_neg (show ¬ (false = true) by decide)] at H; exact H
        clear H
        have H := H1
        clear H1
        simp only [Option.some.injEq, Prod.mk.injEq] at H
        obtain ⟨rfl, rfl⟩ := H
        go_enter Try.func11, Try.ntmps11
        go_wp2_with (first | ((with_reducible refine gate_callee (f := 21) rfl ?_); refine goesL_ (some 12) rfl rfl Try.func21 (by kernel_rfl) rfl #[.slice A0 l0.length c0, .slice A1 l1.length c1] rfl (by (try simp only [List.map_toArray, List.map_cons, List.map_nil]); first | done | rfl | (simp only [List.length_drop, List.length_take]; rfl)) ?_; (with_reducible refine (bids_isRecord.calls k _ _ l0 _ _ l1 true _ ?side1 ?side2 ?side3 ?side4 A5.out).mono ?_); (case side1 => repeat (first | exact HR0.out | (with_reducible refine Kd.C_alloc ?_ _) | (with_reducible refine Kd.C_drewN ?_ _) | (with_reducible refine Kd.C_drew ?_))); (case side2 => exact HC0.out); (case side3 => repeat (first | exact HR1.out | (with_reducible refine Kd.C_alloc ?_ _) | (with_reducible refine Kd.C_drewN ?_ _) | (with_reducible refine Kd.C_drew ?_))); (case side4 => exact HC1.out); rintro e w' ⟨rfl, ⟨nd, rfl⟩⟩; refine ⟨_, rfl, ?_⟩) | (go_at_call 22; (with_reducible refine (bids_in.calls a2 0 (l0.length : Int) false _ A8.out).mono ?_); rintro e w' ⟨rfl, ⟨nd, rfl⟩⟩))
        go_ret2
        exact ⟨by first | rfl | (simp [errW_none, errW_some] <;> rfl) | (simp [*, errW_none, errW_some] <;> rfl), by repeat (first | (with_reducible first | exact HB.out | apply below_alloc | apply pw_below_drewN | apply below_drew1) | exact HB.out)⟩
  · replace c6 := Bool.eq_false_iff.mpr c6
    subst c6
    have H1 : (some (0, 1)) = some (r1, r2) := by rw [if_neg (show ¬ (false = true) by decide)] at H; exact H
    clear H
    have H := H1
    clear H1
    simp only [Option.some.injEq, Prod.mk.injEq] at H
    obtain ⟨rfl, rfl⟩ := H
    go_enter Try.func11, Try.ntmps11
    go_wp2_with (first | ((with_reducible refine gate_callee (f := 21) rfl ?_); refine goesL_ (some 12) rfl rfl Try.func21 (by kernel_rfl) rfl #[.slice A0 l0.length c0, .slice A1 l1.length c1] rfl (by (try simp only [List.map_toArray, List.map_cons, List.map_nil]); first | done | rfl | (simp only [List.length_drop, List.length_take]; rfl)) ?_; (with_reducible refine (bids_isRecord.calls k _ _ l0 _ _ l1 false _ ?side1 ?side2 ?side3 ?side4 A5.out).mono ?_); (case side1 => repeat (first | exact HR0.out | (with_reducible refine Kd.C_alloc ?_ _) | (with_reducible refine Kd.C_drewN ?_ _) | (with_reducible refine Kd.C_drew ?_))); (case side2 => exact HC0.out); (case side3 => repeat (first | exact HR1.out | (with_reducible refine Kd.C_alloc ?_ _) | (with_reducible refine Kd.C_drewN ?_ _) | (with_reducible refine Kd.C_drew ?_))); (case side4 => exact HC1.out); rintro e w' ⟨rfl, ⟨nd, rfl⟩⟩; refine ⟨_, rfl, ?_⟩))
    go_ret2
    exact ⟨by first | rfl | (simp [errW_none, errW_some] <;> rfl) | (simp [*, errW_none, errW_some] <;> rfl), by repeat (first | (with_reducible first | exact HB.out | apply below_alloc | apply pw_below_drewN | apply below_drew1) | exact HB.out)⟩

/-! ### bids_Delivered: function 13 -/
def bids_Delivered.f (l0 : List (List Int)) (l1 : List Bool) (a2 : Int) : Option (Int × Int) := Hand.delivF l0 l1 a2
theorem bids_Delivered.calls (A0 : Option Addr) (c0 : Nat) (l0 : List (List Int)) (A1 : Option Addr) (c1 : Nat) (l1 : List Bool) (a2 r1 r2 : Int) (w : World) (hr0 : Kd.C (Kd.slice 3 (Kd.int .i64)) w A0 l0.length l0) (hc0 : l0.length ≤ c0) (hr1 : Kd.C Kd.bool w A1 l1.length l1) (hc1 : l1.length ≤ c1) (h : bids_Delivered.f l0 l1 a2 = some (r1, r2)) :
    Calls Try.prog 13 #[.slice A0 l0.length c0, .slice A1 l1.length c1, .int .i64 a2] w fun e w' => e = .returned (.tuple #[.int .i64 r1, .int .i64 r2]) ∧ Below w.heap.size w w' := by
  have hrec : ∀ b, Hand.recB l0 l1 = b → ∀ W, Below w.heap.size w W → Calls Try.prog 21 #[.slice A0 l0.length c0, .slice A1 l1.length c1] W fun e w' => e = .returned (.bool b) ∧ ∃ n, w' = W.drewN n := by
    intro b hb W hW
    refine (bids_isRecord.calls 2000 A0 c0 l0 A1 c1 l1 b W (Kd.C_below hr0 hW) hc0 (Kd.C_below hr1 hW) hc1 (by rw [isRecord_eq, hb])).mono ?_
    rintro e w' ⟨rfl, ⟨n, rfl⟩⟩
    exact ⟨rfl, n, rfl⟩
  unfold bids_Delivered.f Hand.delivF at h
  split at h
  · rename_i g
    obtain ⟨g1, g2, g3⟩ := g
    obtain ⟨day, rfl⟩ := Int.eq_ofNat_of_zero_le g2
    have hne : 0 < l0.length := by omega
    obtain ⟨R, hm, hR⟩ := rec_of hr0 hr1 g1 hne
    have hlen : R.length = l0.length := by rw [← hm, List.length_map]
    have hb := Hand.delivered_any w A0 c0 R A1 c1 l1 _ day hR (by omega) (by rw [hlen]; exact hrec true g1) (r1, r2) (Lib.hid (by
      rw [Int.toNat_natCast] at h
      rw [← Option.some.inj h, hm]))
    rw [hlen] at hb
    exact hb
  · rename_i g
    obtain ⟨rfl, rfl⟩ : 0 = r1 ∧ 1 = r2 := by simpa using h
    clear h
    cases hb : Hand.recB l0 l1 with
    | false =>
      have HREC := Lib.hid (hrec false hb)
      clear hrec g hr0 hr1 hb
      go_enter Try.func13, Try.ntmps13
      go_wp2_with (go_at_call 21; refine (HREC.out _ (by go_grown)).mono ?_; rintro e w1 ⟨rfl, nd, rfl⟩)
      go_ret2
      exact ⟨rfl, pw_below_drewN ((((Below.refl _ w).alloc (Nat.le_refl _) _).alloc (by simp) _).alloc (by simp; omega) _) nd⟩
    | true =>
      have HREC := Lib.hid (hrec true hb)
      have hin : bids_in.f a2 0 ((l0.length : Int) - 1) = some false := by
        have : ¬ (0 ≤ a2 ∧ a2 < l0.length) := fun q => g ⟨hb, q⟩
        unfold bids_in.f
        split
        · rw [decide_eq_false (by omega)]
        · rfl
      have HIN := Lib.hid hin
      have hl60 : l0.length ≤ 60 := (of_decide_eq_true hb).1
      clear hrec g hr0 hr1 hb hin
      go_enter Try.func13, Try.ntmps13
      go_wp2_with (first | (go_at_call 21; refine (HREC.out _ (by go_grown)).mono ?_; rintro e w1 ⟨rfl, nd, rfl⟩) | (go_at_call 22; refine (bids_in.calls _ _ _ false _ HIN.out).mono ?_; rintro e w' ⟨rfl, ⟨nd2, rfl⟩⟩))
      go_ret2
      exact ⟨rfl, pw_below_drewN ((((Below.refl _ w).alloc (Nat.le_refl _) _).alloc (by simp) _).alloc (by simp; omega) _) _⟩

end Go.Proofs.Ytakmioomcnnfjaa.PAll
