/- The walks of pilot.Duty and pilot.Amps, and of what they call: each returns what the Lean functions dutyV and ampsV say, for every number, and turns nothing that was in memory before. No conditions. -/
import Derived.Test.YtipoiifilnmagaaProg
import Derived.Handy
import Derived.Below
import Derived.Lib.Hide
import Derived.BigQuiet
import Derived.Deep.QuietTactic
namespace Go.Proofs.Ytipoiifilnmagaa.Hand
open Go.RowKit

theorem bcell {W w1 : World} (hb : Below W.heap.size W w1) : (∀ b o, b < W.heap.size → w1.cell? ⟨b, o, none⟩ = W.cell? ⟨b, o, none⟩) ∧ (∀ b o, b < W.heap.size → w1.frozen? ⟨b, o, none⟩ = W.frozen? ⟨b, o, none⟩) :=
  ⟨fun b o h => hb.cell (p := ⟨b, o, none⟩) h, fun b o h => hb.frozen (p := ⟨b, o, none⟩) h⟩

theorem below5 {w w1 : World} (h : Below w.heap.size w w1) {b : Nat} (hb : w.heap.size = b) (v0 v1 v2 v3 v4 : Value) :
    Below w.heap.size w (((((w1.setCell ⟨b, 0, none⟩ v0).setCell ⟨b, 1, none⟩ v1).setCell ⟨b, 2, none⟩ v2).setCell ⟨b, 3, none⟩ v3).setCell ⟨b, 4, none⟩ v4) :=
  ((((h.setCell (Nat.le_of_eq hb) _).setCell (Nat.le_of_eq hb) _).setCell (Nat.le_of_eq hb) _).setCell (Nat.le_of_eq hb) _).setCell (Nat.le_of_eq hb) _

theorem scale_any (w : World) : Calls Try.prog 23 #[] w fun e w' => e = .returned (.agg #[.int .i64 851, .int .i64 52, .int .i64 4, .int .i64 1, .int .i64 640, .int .i64 100, .int .i64 6, .int .i64 1000, .int .i64 60, .int .i64 0]) ∧ Below w.heap.size w w' := by
  go_enter Try.func23, Try.ntmps23
  go_wp2
  go_returns
  exact ⟨rfl, by go_grown⟩

theorem duty_is (n d m u v k : Int) (b : Nat) (w : World) (hc : w.cell? ⟨b, 0, none⟩ = some (.int .i64 n)) (hb : b < w.heap.size) :
    Calls Try.prog 19 #[.agg #[.int .i64 d, .int .i64 m, .int .i64 u, .int .i64 v, .int .i64 k], .pointer (some ⟨b, 0, none⟩)] w fun e w' => e = .returned (.bool (decide (m ≤ n))) ∧ Below w.heap.size w w' := by
  go_enter Try.func19, Try.ntmps19
  go_wp2
  go_returns
  exact ⟨rfl, by go_grown⟩

theorem amps_is (n d m u v k : Int) (b : Nat) (w : World) (hc : w.cell? ⟨b, 0, none⟩ = some (.int .i64 n)) (hb : b < w.heap.size) :
    Calls Try.prog 22 #[.agg #[.int .i64 d, .int .i64 m, .int .i64 u, .int .i64 v, .int .i64 k], .pointer (some ⟨b, 0, none⟩)] w fun e w' => e = .returned (.bool (decide (d ≤ n))) ∧ Below w.heap.size w w' := by
  go_enter Try.func22, Try.ntmps22
  go_wp2
  go_returns
  exact ⟨rfl, by go_grown⟩

theorem find_duty_hi (n : Int) (b : Nat) (w : World) (hc : w.cell? ⟨b, 0, none⟩ = some (.int .i64 n)) (hb : b < w.heap.size) (h : 52 ≤ n) :
    Calls Try.prog 18 #[.func (.func 19) #[] #[.pointer (some ⟨b, 0, none⟩)]] w fun e w' => e = .returned (.tuple #[.agg #[.int .i64 851, .int .i64 52, .int .i64 4, .int .i64 1, .int .i64 640], .bool true]) ∧ Below w.heap.size w w' := by
  go_enter Try.func18, Try.ntmps18
  go_wp2_with fail
  refine (scale_any _).mono ?_
  rintro e w1 ⟨rfl, hb1⟩
  have hc1 : w1.cell? ⟨b, 0, none⟩ = some (.int .i64 n) := by
    rw [hb1.cell (by simp; omega), World.cell?_alloc_past _ _ _ hb]; exact hc
  have hz : w.heap.size + 1 ≤ w1.heap.size := by have := hb1.size; simpa using this
  have hkz1 : ∀ o, w1.cell? ⟨w.heap.size, o, none⟩ = #[Value.int .i64 0, .int .i64 0, .int .i64 0, .int .i64 0, .int .i64 0][o]? := fun o => by rw [hb1.cell (by simp), World.cell?_alloc_new]
  have hfz1 : ∀ o, w1.frozen? ⟨w.heap.size, o, none⟩ = false := fun o => by rw [hb1.frozen (by simp)]; exact World.frozen?_alloc_new _ _ _ _
  have hbe1 : Below w.heap.size w w1 := ((Below.refl _ _).alloc (Nat.le_refl _) _).trans (hb1.mono (by simp))
  clear hc hb1
  have hb3 : b < w1.heap.size := by omega
  have H1 := Lib.hid hkz1
  have H2 := Lib.hid hfz1
  clear hkz1 hfz1
  go_wp2_with fail
  refine wp_loop_rounds 3 ?_
  rw [rounds_succ]
  go_wp2_with fail
  refine (duty_is n _ _ _ _ _ b _ (by rw [World.cell?_alloc_past _ _ _ hb3]; exact hc1) (by simp; omega)).mono ?_
  rintro e w2 ⟨rfl, hb2⟩
  have hk : ∀ o, w2.cell? ⟨w.heap.size, o, none⟩ = #[Value.int .i64 0, .int .i64 0, .int .i64 0, .int .i64 0, .int .i64 0][o]? := fun o => by rw [hb2.cell (by simp; omega), World.cell?_alloc_past _ _ _ (by omega), H1.out]
  have hfk : ∀ o, w2.frozen? ⟨w.heap.size, o, none⟩ = false := fun o => by rw [hb2.frozen (by simp; omega), frozen?_alloc_cells, H2.out]
  have hc2 : w2.cell? ⟨b, 0, none⟩ = some (.int .i64 n) := by rw [hb2.cell (by simp; omega), World.cell?_alloc_past _ _ _ hb3]; exact hc1
  have ha2 : ∀ o, w2.cell? ⟨w1.heap.size, o, none⟩ = #[Value.int .i64 851, .int .i64 52, .int .i64 4, .int .i64 1, .int .i64 640, .int .i64 100, .int .i64 6, .int .i64 1000, .int .i64 60, .int .i64 0][o]? := fun o => by rw [hb2.cell (by simp), World.cell?_alloc_new]
  have hz2 : w1.heap.size + 1 ≤ w2.heap.size := by have := hb2.size; simpa using this
  have hbe2 : Below w.heap.size w w2 := (hbe1.alloc (by omega) _).trans (hb2.mono (by simp; omega))
  clear hb2 H1 H2 hc1
  rw [decide_eq_true h]
  go_wp2_with fail
  refine bodyPost_ret (v := .tuple #[.agg #[.int .i64 851, .int .i64 52, .int .i64 4, .int .i64 1, .int .i64 640], .bool true]) (by simp [results, Try.results18, go_sem, hk]; try rfl) rfl ⟨rfl, ?_⟩
  exact below5 hbe2 rfl _ _ _ _ _

theorem find_duty_lo (n : Int) (b : Nat) (w : World) (hc : w.cell? ⟨b, 0, none⟩ = some (.int .i64 n)) (hb : b < w.heap.size) (h : 6 ≤ n) (h' : n < 52) :
    Calls Try.prog 18 #[.func (.func 19) #[] #[.pointer (some ⟨b, 0, none⟩)]] w fun e w' => e = .returned (.tuple #[.agg #[.int .i64 100, .int .i64 6, .int .i64 1000, .int .i64 60, .int .i64 0], .bool true]) ∧ Below w.heap.size w w' := by
  go_enter Try.func18, Try.ntmps18
  go_wp2_with fail
  refine (scale_any _).mono ?_
  rintro e w1 ⟨rfl, hb1⟩
  have hc1 : w1.cell? ⟨b, 0, none⟩ = some (.int .i64 n) := by
    rw [hb1.cell (by simp; omega), World.cell?_alloc_past _ _ _ hb]; exact hc
  have hz : w.heap.size + 1 ≤ w1.heap.size := by have := hb1.size; simpa using this
  have hkz1 : ∀ o, w1.cell? ⟨w.heap.size, o, none⟩ = #[Value.int .i64 0, .int .i64 0, .int .i64 0, .int .i64 0, .int .i64 0][o]? := fun o => by rw [hb1.cell (by simp), World.cell?_alloc_new]
  have hfz1 : ∀ o, w1.frozen? ⟨w.heap.size, o, none⟩ = false := fun o => by rw [hb1.frozen (by simp)]; exact World.frozen?_alloc_new _ _ _ _
  have hbe1 : Below w.heap.size w w1 := ((Below.refl _ _).alloc (Nat.le_refl _) _).trans (hb1.mono (by simp))
  clear hc hb1
  have hb3 : b < w1.heap.size := by omega
  have H1 := Lib.hid hkz1
  have H2 := Lib.hid hfz1
  clear hkz1 hfz1
  go_wp2_with fail
  refine wp_loop_rounds 3 ?_
  rw [rounds_succ]
  go_wp2_with fail
  refine (duty_is n _ _ _ _ _ b _ (by rw [World.cell?_alloc_past _ _ _ hb3]; exact hc1) (by simp; omega)).mono ?_
  rintro e w2 ⟨rfl, hb2⟩
  have hk : ∀ o, w2.cell? ⟨w.heap.size, o, none⟩ = #[Value.int .i64 0, .int .i64 0, .int .i64 0, .int .i64 0, .int .i64 0][o]? := fun o => by rw [hb2.cell (by simp; omega), World.cell?_alloc_past _ _ _ (by omega), H1.out]
  have hfk : ∀ o, w2.frozen? ⟨w.heap.size, o, none⟩ = false := fun o => by rw [hb2.frozen (by simp; omega), frozen?_alloc_cells, H2.out]
  have hc2 : w2.cell? ⟨b, 0, none⟩ = some (.int .i64 n) := by rw [hb2.cell (by simp; omega), World.cell?_alloc_past _ _ _ hb3]; exact hc1
  have ha2 : ∀ o, w2.cell? ⟨w1.heap.size, o, none⟩ = #[Value.int .i64 851, .int .i64 52, .int .i64 4, .int .i64 1, .int .i64 640, .int .i64 100, .int .i64 6, .int .i64 1000, .int .i64 60, .int .i64 0][o]? := fun o => by rw [hb2.cell (by simp), World.cell?_alloc_new]
  have hz2 : w1.heap.size + 1 ≤ w2.heap.size := by have := hb2.size; simpa using this
  have hbe2 : Below w.heap.size w w2 := (hbe1.alloc (by omega) _).trans (hb2.mono (by simp; omega))
  clear hb2 H1 H2 hc1
  rw [decide_eq_false (by omega)]
  have H1 := Lib.hid hk
  have H2 := Lib.hid hfk
  clear hk hfk
  have hb4 : b < w2.heap.size := by omega
  go_wp2_with fail
  rw [rounds_succ]
  go_wp2_with fail
  refine (duty_is n _ _ _ _ _ b _ hc2 hb4).mono ?_
  rintro e w3 ⟨rfl, hb3'⟩
  have hk : ∀ o, w3.cell? ⟨w.heap.size, o, none⟩ = #[Value.int .i64 0, .int .i64 0, .int .i64 0, .int .i64 0, .int .i64 0][o]? := fun o => by rw [hb3'.cell (by simp; omega), H1.out]
  have hfk : ∀ o, w3.frozen? ⟨w.heap.size, o, none⟩ = false := fun o => by rw [hb3'.frozen (by simp; omega), H2.out]
  have ha3 : ∀ o, w3.cell? ⟨w1.heap.size, o, none⟩ = #[Value.int .i64 851, .int .i64 52, .int .i64 4, .int .i64 1, .int .i64 640, .int .i64 100, .int .i64 6, .int .i64 1000, .int .i64 60, .int .i64 0][o]? := fun o => by rw [hb3'.cell (by simp; omega), ha2]
  have hbe3 : Below w.heap.size w w3 := hbe2.trans (hb3'.mono (by omega))
  clear hb3' H1 H2 ha2 hc2
  rw [decide_eq_true h]
  go_wp2_with fail
  refine bodyPost_ret (v := .tuple #[.agg #[.int .i64 100, .int .i64 6, .int .i64 1000, .int .i64 60, .int .i64 0], .bool true]) (by simp [results, Try.results18, go_sem, hk]; try rfl) rfl ⟨rfl, ?_⟩
  exact below5 hbe3 rfl _ _ _ _ _

theorem find_duty_no (n : Int) (b : Nat) (w : World) (hc : w.cell? ⟨b, 0, none⟩ = some (.int .i64 n)) (hb : b < w.heap.size) (h : n < 6) :
    Calls Try.prog 18 #[.func (.func 19) #[] #[.pointer (some ⟨b, 0, none⟩)]] w fun e w' => e = .returned (.tuple #[.agg #[.int .i64 0, .int .i64 0, .int .i64 0, .int .i64 0, .int .i64 0], .bool false]) ∧ Below w.heap.size w w' := by
  go_enter Try.func18, Try.ntmps18
  go_wp2_with fail
  refine (scale_any _).mono ?_
  rintro e w1 ⟨rfl, hb1⟩
  have hc1 : w1.cell? ⟨b, 0, none⟩ = some (.int .i64 n) := by
    rw [hb1.cell (by simp; omega), World.cell?_alloc_past _ _ _ hb]; exact hc
  have hz : w.heap.size + 1 ≤ w1.heap.size := by have := hb1.size; simpa using this
  have hkz1 : ∀ o, w1.cell? ⟨w.heap.size, o, none⟩ = #[Value.int .i64 0, .int .i64 0, .int .i64 0, .int .i64 0, .int .i64 0][o]? := fun o => by rw [hb1.cell (by simp), World.cell?_alloc_new]
  have hfz1 : ∀ o, w1.frozen? ⟨w.heap.size, o, none⟩ = false := fun o => by rw [hb1.frozen (by simp)]; exact World.frozen?_alloc_new _ _ _ _
  have hbe1 : Below w.heap.size w w1 := ((Below.refl _ _).alloc (Nat.le_refl _) _).trans (hb1.mono (by simp))
  clear hc hb1
  have hb3 : b < w1.heap.size := by omega
  have H1 := Lib.hid hkz1
  have H2 := Lib.hid hfz1
  clear hkz1 hfz1
  go_wp2_with fail
  refine wp_loop_rounds 3 ?_
  rw [rounds_succ]
  go_wp2_with fail
  refine (duty_is n _ _ _ _ _ b _ (by rw [World.cell?_alloc_past _ _ _ hb3]; exact hc1) (by simp; omega)).mono ?_
  rintro e w2 ⟨rfl, hb2⟩
  have hk : ∀ o, w2.cell? ⟨w.heap.size, o, none⟩ = #[Value.int .i64 0, .int .i64 0, .int .i64 0, .int .i64 0, .int .i64 0][o]? := fun o => by rw [hb2.cell (by simp; omega), World.cell?_alloc_past _ _ _ (by omega), H1.out]
  have hfk : ∀ o, w2.frozen? ⟨w.heap.size, o, none⟩ = false := fun o => by rw [hb2.frozen (by simp; omega), frozen?_alloc_cells, H2.out]
  have hc2 : w2.cell? ⟨b, 0, none⟩ = some (.int .i64 n) := by rw [hb2.cell (by simp; omega), World.cell?_alloc_past _ _ _ hb3]; exact hc1
  have ha2 : ∀ o, w2.cell? ⟨w1.heap.size, o, none⟩ = #[Value.int .i64 851, .int .i64 52, .int .i64 4, .int .i64 1, .int .i64 640, .int .i64 100, .int .i64 6, .int .i64 1000, .int .i64 60, .int .i64 0][o]? := fun o => by rw [hb2.cell (by simp), World.cell?_alloc_new]
  have hz2 : w1.heap.size + 1 ≤ w2.heap.size := by have := hb2.size; simpa using this
  have hbe2 : Below w.heap.size w w2 := (hbe1.alloc (by omega) _).trans (hb2.mono (by simp; omega))
  clear hb2 H1 H2 hc1
  rw [decide_eq_false (by omega)]
  have H1 := Lib.hid hk
  have H2 := Lib.hid hfk
  clear hk hfk
  have hb4 : b < w2.heap.size := by omega
  go_wp2_with fail
  rw [rounds_succ]
  go_wp2_with fail
  refine (duty_is n _ _ _ _ _ b _ hc2 hb4).mono ?_
  rintro e w3 ⟨rfl, hb3'⟩
  have hk : ∀ o, w3.cell? ⟨w.heap.size, o, none⟩ = #[Value.int .i64 0, .int .i64 0, .int .i64 0, .int .i64 0, .int .i64 0][o]? := fun o => by rw [hb3'.cell (by simp; omega), H1.out]
  have hfk : ∀ o, w3.frozen? ⟨w.heap.size, o, none⟩ = false := fun o => by rw [hb3'.frozen (by simp; omega), H2.out]
  have ha3 : ∀ o, w3.cell? ⟨w1.heap.size, o, none⟩ = #[Value.int .i64 851, .int .i64 52, .int .i64 4, .int .i64 1, .int .i64 640, .int .i64 100, .int .i64 6, .int .i64 1000, .int .i64 60, .int .i64 0][o]? := fun o => by rw [hb3'.cell (by simp; omega), ha2]
  have hbe3 : Below w.heap.size w w3 := hbe2.trans (hb3'.mono (by omega))
  clear hb3' H1 H2 ha2 hc2
  rw [decide_eq_false (by omega)]
  go_wp2_with fail
  rw [rounds_succ]
  go_wp2_with fail
  refine bodyPost_ret (v := .tuple #[.agg #[.int .i64 0, .int .i64 0, .int .i64 0, .int .i64 0, .int .i64 0], .bool false]) (by simp [results, Try.results18, go_sem, hk]; try rfl) rfl ⟨rfl, ?_⟩
  exact below5 hbe3 rfl _ _ _ _ _

theorem find_amps_hi (n : Int) (b : Nat) (w : World) (hc : w.cell? ⟨b, 0, none⟩ = some (.int .i64 n)) (hb : b < w.heap.size) (h : 851 ≤ n) :
    Calls Try.prog 18 #[.func (.func 22) #[] #[.pointer (some ⟨b, 0, none⟩)]] w fun e w' => e = .returned (.tuple #[.agg #[.int .i64 851, .int .i64 52, .int .i64 4, .int .i64 1, .int .i64 640], .bool true]) ∧ Below w.heap.size w w' := by
  go_enter Try.func18, Try.ntmps18
  go_wp2_with fail
  refine (scale_any _).mono ?_
  rintro e w1 ⟨rfl, hb1⟩
  have hc1 : w1.cell? ⟨b, 0, none⟩ = some (.int .i64 n) := by
    rw [hb1.cell (by simp; omega), World.cell?_alloc_past _ _ _ hb]; exact hc
  have hz : w.heap.size + 1 ≤ w1.heap.size := by have := hb1.size; simpa using this
  have hkz1 : ∀ o, w1.cell? ⟨w.heap.size, o, none⟩ = #[Value.int .i64 0, .int .i64 0, .int .i64 0, .int .i64 0, .int .i64 0][o]? := fun o => by rw [hb1.cell (by simp), World.cell?_alloc_new]
  have hfz1 : ∀ o, w1.frozen? ⟨w.heap.size, o, none⟩ = false := fun o => by rw [hb1.frozen (by simp)]; exact World.frozen?_alloc_new _ _ _ _
  have hbe1 : Below w.heap.size w w1 := ((Below.refl _ _).alloc (Nat.le_refl _) _).trans (hb1.mono (by simp))
  clear hc hb1
  have hb3 : b < w1.heap.size := by omega
  have H1 := Lib.hid hkz1
  have H2 := Lib.hid hfz1
  clear hkz1 hfz1
  go_wp2_with fail
  refine wp_loop_rounds 3 ?_
  rw [rounds_succ]
  go_wp2_with fail
  refine (amps_is n _ _ _ _ _ b _ (by rw [World.cell?_alloc_past _ _ _ hb3]; exact hc1) (by simp; omega)).mono ?_
  rintro e w2 ⟨rfl, hb2⟩
  have hk : ∀ o, w2.cell? ⟨w.heap.size, o, none⟩ = #[Value.int .i64 0, .int .i64 0, .int .i64 0, .int .i64 0, .int .i64 0][o]? := fun o => by rw [hb2.cell (by simp; omega), World.cell?_alloc_past _ _ _ (by omega), H1.out]
  have hfk : ∀ o, w2.frozen? ⟨w.heap.size, o, none⟩ = false := fun o => by rw [hb2.frozen (by simp; omega), frozen?_alloc_cells, H2.out]
  have hc2 : w2.cell? ⟨b, 0, none⟩ = some (.int .i64 n) := by rw [hb2.cell (by simp; omega), World.cell?_alloc_past _ _ _ hb3]; exact hc1
  have ha2 : ∀ o, w2.cell? ⟨w1.heap.size, o, none⟩ = #[Value.int .i64 851, .int .i64 52, .int .i64 4, .int .i64 1, .int .i64 640, .int .i64 100, .int .i64 6, .int .i64 1000, .int .i64 60, .int .i64 0][o]? := fun o => by rw [hb2.cell (by simp), World.cell?_alloc_new]
  have hz2 : w1.heap.size + 1 ≤ w2.heap.size := by have := hb2.size; simpa using this
  have hbe2 : Below w.heap.size w w2 := (hbe1.alloc (by omega) _).trans (hb2.mono (by simp; omega))
  clear hb2 H1 H2 hc1
  rw [decide_eq_true h]
  go_wp2_with fail
  refine bodyPost_ret (v := .tuple #[.agg #[.int .i64 851, .int .i64 52, .int .i64 4, .int .i64 1, .int .i64 640], .bool true]) (by simp [results, Try.results18, go_sem, hk]; try rfl) rfl ⟨rfl, ?_⟩
  exact below5 hbe2 rfl _ _ _ _ _

theorem find_amps_lo (n : Int) (b : Nat) (w : World) (hc : w.cell? ⟨b, 0, none⟩ = some (.int .i64 n)) (hb : b < w.heap.size) (h : 100 ≤ n) (h' : n < 851) :
    Calls Try.prog 18 #[.func (.func 22) #[] #[.pointer (some ⟨b, 0, none⟩)]] w fun e w' => e = .returned (.tuple #[.agg #[.int .i64 100, .int .i64 6, .int .i64 1000, .int .i64 60, .int .i64 0], .bool true]) ∧ Below w.heap.size w w' := by
  go_enter Try.func18, Try.ntmps18
  go_wp2_with fail
  refine (scale_any _).mono ?_
  rintro e w1 ⟨rfl, hb1⟩
  have hc1 : w1.cell? ⟨b, 0, none⟩ = some (.int .i64 n) := by
    rw [hb1.cell (by simp; omega), World.cell?_alloc_past _ _ _ hb]; exact hc
  have hz : w.heap.size + 1 ≤ w1.heap.size := by have := hb1.size; simpa using this
  have hkz1 : ∀ o, w1.cell? ⟨w.heap.size, o, none⟩ = #[Value.int .i64 0, .int .i64 0, .int .i64 0, .int .i64 0, .int .i64 0][o]? := fun o => by rw [hb1.cell (by simp), World.cell?_alloc_new]
  have hfz1 : ∀ o, w1.frozen? ⟨w.heap.size, o, none⟩ = false := fun o => by rw [hb1.frozen (by simp)]; exact World.frozen?_alloc_new _ _ _ _
  have hbe1 : Below w.heap.size w w1 := ((Below.refl _ _).alloc (Nat.le_refl _) _).trans (hb1.mono (by simp))
  clear hc hb1
  have hb3 : b < w1.heap.size := by omega
  have H1 := Lib.hid hkz1
  have H2 := Lib.hid hfz1
  clear hkz1 hfz1
  go_wp2_with fail
  refine wp_loop_rounds 3 ?_
  rw [rounds_succ]
  go_wp2_with fail
  refine (amps_is n _ _ _ _ _ b _ (by rw [World.cell?_alloc_past _ _ _ hb3]; exact hc1) (by simp; omega)).mono ?_
  rintro e w2 ⟨rfl, hb2⟩
  have hk : ∀ o, w2.cell? ⟨w.heap.size, o, none⟩ = #[Value.int .i64 0, .int .i64 0, .int .i64 0, .int .i64 0, .int .i64 0][o]? := fun o => by rw [hb2.cell (by simp; omega), World.cell?_alloc_past _ _ _ (by omega), H1.out]
  have hfk : ∀ o, w2.frozen? ⟨w.heap.size, o, none⟩ = false := fun o => by rw [hb2.frozen (by simp; omega), frozen?_alloc_cells, H2.out]
  have hc2 : w2.cell? ⟨b, 0, none⟩ = some (.int .i64 n) := by rw [hb2.cell (by simp; omega), World.cell?_alloc_past _ _ _ hb3]; exact hc1
  have ha2 : ∀ o, w2.cell? ⟨w1.heap.size, o, none⟩ = #[Value.int .i64 851, .int .i64 52, .int .i64 4, .int .i64 1, .int .i64 640, .int .i64 100, .int .i64 6, .int .i64 1000, .int .i64 60, .int .i64 0][o]? := fun o => by rw [hb2.cell (by simp), World.cell?_alloc_new]
  have hz2 : w1.heap.size + 1 ≤ w2.heap.size := by have := hb2.size; simpa using this
  have hbe2 : Below w.heap.size w w2 := (hbe1.alloc (by omega) _).trans (hb2.mono (by simp; omega))
  clear hb2 H1 H2 hc1
  rw [decide_eq_false (by omega)]
  have H1 := Lib.hid hk
  have H2 := Lib.hid hfk
  clear hk hfk
  have hb4 : b < w2.heap.size := by omega
  go_wp2_with fail
  rw [rounds_succ]
  go_wp2_with fail
  refine (amps_is n _ _ _ _ _ b _ hc2 hb4).mono ?_
  rintro e w3 ⟨rfl, hb3'⟩
  have hk : ∀ o, w3.cell? ⟨w.heap.size, o, none⟩ = #[Value.int .i64 0, .int .i64 0, .int .i64 0, .int .i64 0, .int .i64 0][o]? := fun o => by rw [hb3'.cell (by simp; omega), H1.out]
  have hfk : ∀ o, w3.frozen? ⟨w.heap.size, o, none⟩ = false := fun o => by rw [hb3'.frozen (by simp; omega), H2.out]
  have ha3 : ∀ o, w3.cell? ⟨w1.heap.size, o, none⟩ = #[Value.int .i64 851, .int .i64 52, .int .i64 4, .int .i64 1, .int .i64 640, .int .i64 100, .int .i64 6, .int .i64 1000, .int .i64 60, .int .i64 0][o]? := fun o => by rw [hb3'.cell (by simp; omega), ha2]
  have hbe3 : Below w.heap.size w w3 := hbe2.trans (hb3'.mono (by omega))
  clear hb3' H1 H2 ha2 hc2
  rw [decide_eq_true h]
  go_wp2_with fail
  refine bodyPost_ret (v := .tuple #[.agg #[.int .i64 100, .int .i64 6, .int .i64 1000, .int .i64 60, .int .i64 0], .bool true]) (by simp [results, Try.results18, go_sem, hk]; try rfl) rfl ⟨rfl, ?_⟩
  exact below5 hbe3 rfl _ _ _ _ _

theorem find_amps_no (n : Int) (b : Nat) (w : World) (hc : w.cell? ⟨b, 0, none⟩ = some (.int .i64 n)) (hb : b < w.heap.size) (h : n < 100) :
    Calls Try.prog 18 #[.func (.func 22) #[] #[.pointer (some ⟨b, 0, none⟩)]] w fun e w' => e = .returned (.tuple #[.agg #[.int .i64 0, .int .i64 0, .int .i64 0, .int .i64 0, .int .i64 0], .bool false]) ∧ Below w.heap.size w w' := by
  go_enter Try.func18, Try.ntmps18
  go_wp2_with fail
  refine (scale_any _).mono ?_
  rintro e w1 ⟨rfl, hb1⟩
  have hc1 : w1.cell? ⟨b, 0, none⟩ = some (.int .i64 n) := by
    rw [hb1.cell (by simp; omega), World.cell?_alloc_past _ _ _ hb]; exact hc
  have hz : w.heap.size + 1 ≤ w1.heap.size := by have := hb1.size; simpa using this
  have hkz1 : ∀ o, w1.cell? ⟨w.heap.size, o, none⟩ = #[Value.int .i64 0, .int .i64 0, .int .i64 0, .int .i64 0, .int .i64 0][o]? := fun o => by rw [hb1.cell (by simp), World.cell?_alloc_new]
  have hfz1 : ∀ o, w1.frozen? ⟨w.heap.size, o, none⟩ = false := fun o => by rw [hb1.frozen (by simp)]; exact World.frozen?_alloc_new _ _ _ _
  have hbe1 : Below w.heap.size w w1 := ((Below.refl _ _).alloc (Nat.le_refl _) _).trans (hb1.mono (by simp))
  clear hc hb1
  have hb3 : b < w1.heap.size := by omega
  have H1 := Lib.hid hkz1
  have H2 := Lib.hid hfz1
  clear hkz1 hfz1
  go_wp2_with fail
  refine wp_loop_rounds 3 ?_
  rw [rounds_succ]
  go_wp2_with fail
  refine (amps_is n _ _ _ _ _ b _ (by rw [World.cell?_alloc_past _ _ _ hb3]; exact hc1) (by simp; omega)).mono ?_
  rintro e w2 ⟨rfl, hb2⟩
  have hk : ∀ o, w2.cell? ⟨w.heap.size, o, none⟩ = #[Value.int .i64 0, .int .i64 0, .int .i64 0, .int .i64 0, .int .i64 0][o]? := fun o => by rw [hb2.cell (by simp; omega), World.cell?_alloc_past _ _ _ (by omega), H1.out]
  have hfk : ∀ o, w2.frozen? ⟨w.heap.size, o, none⟩ = false := fun o => by rw [hb2.frozen (by simp; omega), frozen?_alloc_cells, H2.out]
  have hc2 : w2.cell? ⟨b, 0, none⟩ = some (.int .i64 n) := by rw [hb2.cell (by simp; omega), World.cell?_alloc_past _ _ _ hb3]; exact hc1
  have ha2 : ∀ o, w2.cell? ⟨w1.heap.size, o, none⟩ = #[Value.int .i64 851, .int .i64 52, .int .i64 4, .int .i64 1, .int .i64 640, .int .i64 100, .int .i64 6, .int .i64 1000, .int .i64 60, .int .i64 0][o]? := fun o => by rw [hb2.cell (by simp), World.cell?_alloc_new]
  have hz2 : w1.heap.size + 1 ≤ w2.heap.size := by have := hb2.size; simpa using this
  have hbe2 : Below w.heap.size w w2 := (hbe1.alloc (by omega) _).trans (hb2.mono (by simp; omega))
  clear hb2 H1 H2 hc1
  rw [decide_eq_false (by omega)]
  have H1 := Lib.hid hk
  have H2 := Lib.hid hfk
  clear hk hfk
  have hb4 : b < w2.heap.size := by omega
  go_wp2_with fail
  rw [rounds_succ]
  go_wp2_with fail
  refine (amps_is n _ _ _ _ _ b _ hc2 hb4).mono ?_
  rintro e w3 ⟨rfl, hb3'⟩
  have hk : ∀ o, w3.cell? ⟨w.heap.size, o, none⟩ = #[Value.int .i64 0, .int .i64 0, .int .i64 0, .int .i64 0, .int .i64 0][o]? := fun o => by rw [hb3'.cell (by simp; omega), H1.out]
  have hfk : ∀ o, w3.frozen? ⟨w.heap.size, o, none⟩ = false := fun o => by rw [hb3'.frozen (by simp; omega), H2.out]
  have ha3 : ∀ o, w3.cell? ⟨w1.heap.size, o, none⟩ = #[Value.int .i64 851, .int .i64 52, .int .i64 4, .int .i64 1, .int .i64 640, .int .i64 100, .int .i64 6, .int .i64 1000, .int .i64 60, .int .i64 0][o]? := fun o => by rw [hb3'.cell (by simp; omega), ha2]
  have hbe3 : Below w.heap.size w w3 := hbe2.trans (hb3'.mono (by omega))
  clear hb3' H1 H2 ha2 hc2
  rw [decide_eq_false (by omega)]
  go_wp2_with fail
  rw [rounds_succ]
  go_wp2_with fail
  refine bodyPost_ret (v := .tuple #[.agg #[.int .i64 0, .int .i64 0, .int .i64 0, .int .i64 0, .int .i64 0], .bool false]) (by simp [results, Try.results18, go_sem, hk]; try rfl) rfl ⟨rfl, ?_⟩
  exact below5 hbe3 rfl _ _ _ _ _

theorem below_drewN {B : Nat} {w w' : World} (h : Below B w w') (n : Nat) : Below B w (w'.drewN n) := h.trans ⟨rfl, rfl, rfl, Nat.le_refl _, fun _ _ => rfl⟩

theorem ret_int {k : IntKind} {a b : Int} (h : a = b) : Ending.returned (.int k a) = .returned (.int k b) := by rw [h]

theorem cycle_hi (n r : Int) (w : World) (h : 52 ≤ n) (h' : n ≤ 80) (hr : Hid ((n = 52 ∧ r = 851) ∨ (52 < n ∧ r = 4 * n + 640))) :
    Calls Try.prog 20 #[.agg #[.int .i64 851, .int .i64 52, .int .i64 4, .int .i64 1, .int .i64 640], .int .i64 n] w fun e w' => e = .returned (.int .i64 r) ∧ Below w.heap.size w w' := by
  go_enter Try.func20, Try.ntmps20
  go_wp2_with fail
  go_quiet (fail)
  go_wp2
  all_goals
    go_returns
    exact ⟨ret_int (by have := hr.out; omega), below_drewN ((Below.refl _ _).alloc (Nat.le_refl _) _) _⟩

theorem cycle_lo (n r : Int) (w : World) (h : 6 ≤ n) (h' : n ≤ 51) (hr : Hid (r = (n * 1000 + 59) / 60)) :
    Calls Try.prog 20 #[.agg #[.int .i64 100, .int .i64 6, .int .i64 1000, .int .i64 60, .int .i64 0], .int .i64 n] w fun e w' => e = .returned (.int .i64 r) ∧ Below w.heap.size w w' := by
  go_enter Try.func20, Try.ntmps20
  go_wp2_with fail
  go_quiet (fail)
  go_wp2
  all_goals
    go_returns
    exact ⟨ret_int (by have := hr.out; omega), below_drewN ((Below.refl _ _).alloc (Nat.le_refl _) _) _⟩

def dutyV (n : Int) : Int × Int :=
  if n = 0 then (1000, 0) else if n < 6 then (0, 3) else if 80 < n then (0, 3) else if 52 ≤ n then (if n = 52 then 851 else 4 * n + 640, 0) else ((n * 1000 + 59) / 60, 0)

theorem duty_any (n : Int) (w : World) :
    Calls Try.prog 10 #[.int .i64 n] w fun e w' => e = .returned (.tuple #[.int .i64 (dutyV n).1, .int .i64 (dutyV n).2]) ∧ Below w.heap.size w w' := by
  by_cases h0 : n = 0
  · subst h0
    go_enter Try.func10, Try.ntmps10
    go_wp2
    go_ret2
    exact ⟨rfl, by go_grown⟩
  · have e0 : (n == 0) = false := beq_eq_false_iff_ne.2 h0
    by_cases h6 : n < 6
    · have ev : dutyV n = (0, 3) := by unfold dutyV; rw [if_neg h0, if_pos h6]
      rw [ev]; clear ev
      go_enter Try.func10, Try.ntmps10
      go_wp2_with fail
      refine (find_duty_no n w.heap.size _ (by rw [World.cell?_alloc_new]; rfl) (by simp) h6).mono ?_
      rintro e w1 ⟨rfl, hb1⟩
      have hz1 : w.heap.size < w1.heap.size := by have := hb1.size; simp at this; omega
      go_wp2
      go_ret2
      exact ⟨rfl, (((Below.refl _ _).alloc (Nat.le_refl _) _).trans (hb1.mono (by simp))).alloc (by omega) _⟩
    · by_cases h80 : 80 < n
      · have ev : dutyV n = (0, 3) := by unfold dutyV; rw [if_neg h0, if_neg h6, if_pos h80]
        rw [ev]; clear ev
        go_enter Try.func10, Try.ntmps10
        go_wp2_with fail
        refine (find_duty_hi n w.heap.size _ (by rw [World.cell?_alloc_new]; rfl) (by simp) (by omega)).mono ?_
        rintro e w1 ⟨rfl, hb1⟩
        have hz1 : w.heap.size < w1.heap.size := by have := hb1.size; simp at this; omega
        have hc1 : w1.cell? ⟨w.heap.size, 0, none⟩ = some (.int .i64 n) := by rw [hb1.cell (by simp), World.cell?_alloc_new]; rfl
        go_wp2
        go_ret2
        exact ⟨rfl, (((Below.refl _ _).alloc (Nat.le_refl _) _).trans (hb1.mono (by simp))).alloc (by omega) _⟩
      · by_cases h52 : 52 ≤ n
        · have ev : dutyV n = (if n = 52 then 851 else 4 * n + 640, 0) := by unfold dutyV; rw [if_neg h0, if_neg h6, if_neg h80, if_pos h52]
          rw [ev]; clear ev
          go_enter Try.func10, Try.ntmps10
          go_wp2_with fail
          refine (find_duty_hi n w.heap.size _ (by rw [World.cell?_alloc_new]; rfl) (by simp) (by omega)).mono ?_
          rintro e w1 ⟨rfl, hb1⟩
          have hz1 : w.heap.size < w1.heap.size := by have := hb1.size; simp at this; omega
          have hc1 : w1.cell? ⟨w.heap.size, 0, none⟩ = some (.int .i64 n) := by rw [hb1.cell (by simp), World.cell?_alloc_new]; rfl
          have hbe1 : Below w.heap.size w w1 := ((Below.refl _ _).alloc (Nat.le_refl _) _).trans (hb1.mono (by simp))
          clear hb1
          go_wp2_with fail
          refine (cycle_hi n (if n = 52 then 851 else 4 * n + 640) _ h52 (by omega) (by by_cases h2 : n = 52; exact Or.inl ⟨h2, if_pos h2⟩; exact Or.inr ⟨by omega, if_neg h2⟩)).mono ?_
          rintro e w2 ⟨rfl, hb2⟩
          go_wp2_with fail
          all_goals
            go_ret2
            exact ⟨rfl, (hbe1.alloc (by omega) _).trans (hb2.mono (by simp; omega))⟩
        · have ev : dutyV n = ((n * 1000 + 59) / 60, 0) := by unfold dutyV; rw [if_neg h0, if_neg h6, if_neg h80, if_neg h52]
          rw [ev]; clear ev
          go_enter Try.func10, Try.ntmps10
          go_wp2_with fail
          refine (find_duty_lo n w.heap.size _ (by rw [World.cell?_alloc_new]; rfl) (by simp) (by omega) (by omega)).mono ?_
          rintro e w1 ⟨rfl, hb1⟩
          have hz1 : w.heap.size < w1.heap.size := by have := hb1.size; simp at this; omega
          have hc1 : w1.cell? ⟨w.heap.size, 0, none⟩ = some (.int .i64 n) := by rw [hb1.cell (by simp), World.cell?_alloc_new]; rfl
          have hbe1 : Below w.heap.size w w1 := ((Below.refl _ _).alloc (Nat.le_refl _) _).trans (hb1.mono (by simp))
          clear hb1
          go_wp2_with fail
          refine (cycle_lo n ((n * 1000 + 59) / 60) _ (by omega) (by omega) rfl).mono ?_
          rintro e w2 ⟨rfl, hb2⟩
          go_wp2_with fail
          go_ret2
          exact ⟨rfl, (hbe1.alloc (by omega) _).trans (hb2.mono (by simp; omega))⟩

def ampsV (n : Int) : Int × Int :=
  if n < 0 then (0, 1) else if 1000 < n then (0, 1) else if n < 100 then (0, 0) else if 960 < n then (0, 0) else if 851 ≤ n then ((n - 640) / 4, 0) else (n * 60 / 1000, 0)

theorem amps_any (n : Int) (w : World) :
    Calls Try.prog 12 #[.int .i64 n] w fun e w' => e = .returned (.tuple #[.int .i64 (ampsV n).1, .int .i64 (ampsV n).2]) ∧ Below w.heap.size w w' := by
  by_cases h0 : n < 0
  · have ev : ampsV n = (0, 1) := by unfold ampsV; rw [if_pos h0]
    rw [ev]; clear ev
    go_enter Try.func12, Try.ntmps12
    go_wp2
    go_ret2
    exact ⟨rfl, by go_grown⟩
  · by_cases h1 : 1000 < n
    · have ev : ampsV n = (0, 1) := by unfold ampsV; rw [if_neg h0, if_pos h1]
      rw [ev]; clear ev
      go_enter Try.func12, Try.ntmps12
      go_wp2
      go_ret2
      exact ⟨rfl, by go_grown⟩
    · by_cases h6 : n < 100
      · have ev : ampsV n = (0, 0) := by unfold ampsV; rw [if_neg h0, if_neg h1, if_pos h6]
        rw [ev]; clear ev
        go_enter Try.func12, Try.ntmps12
        go_wp2_with fail
        refine (find_amps_no n w.heap.size _ (by rw [World.cell?_alloc_new]; rfl) (by simp) h6).mono ?_
        rintro e w1 ⟨rfl, hb1⟩
        have hz1 : w.heap.size < w1.heap.size := by have := hb1.size; simp at this; omega
        go_wp2
        go_ret2
        exact ⟨rfl, (((Below.refl _ _).alloc (Nat.le_refl _) _).trans (hb1.mono (by simp))).alloc (by omega) _⟩
      · by_cases h80 : 960 < n
        · have ev : ampsV n = (0, 0) := by unfold ampsV; rw [if_neg h0, if_neg h1, if_neg h6, if_pos h80]
          rw [ev]; clear ev
          go_enter Try.func12, Try.ntmps12
          go_wp2_with fail
          refine (find_amps_hi n w.heap.size _ (by rw [World.cell?_alloc_new]; rfl) (by simp) (by omega)).mono ?_
          rintro e w1 ⟨rfl, hb1⟩
          have hz1 : w.heap.size < w1.heap.size := by have := hb1.size; simp at this; omega
          have hc1 : w1.cell? ⟨w.heap.size, 0, none⟩ = some (.int .i64 n) := by rw [hb1.cell (by simp), World.cell?_alloc_new]; rfl
          go_wp2
          go_ret2
          exact ⟨rfl, (((Below.refl _ _).alloc (Nat.le_refl _) _).trans (hb1.mono (by simp))).alloc (by omega) _⟩
        · by_cases h52 : 851 ≤ n
          · have ev : ampsV n = ((n - 640) / 4, 0) := by unfold ampsV; rw [if_neg h0, if_neg h1, if_neg h6, if_neg h80, if_pos h52]
            rw [ev]; clear ev
            go_enter Try.func12, Try.ntmps12
            go_wp2_with fail
            refine (find_amps_hi n w.heap.size _ (by rw [World.cell?_alloc_new]; rfl) (by simp) (by omega)).mono ?_
            rintro e w1 ⟨rfl, hb1⟩
            have hz1 : w.heap.size < w1.heap.size := by have := hb1.size; simp at this; omega
            have hc1 : w1.cell? ⟨w.heap.size, 0, none⟩ = some (.int .i64 n) := by rw [hb1.cell (by simp), World.cell?_alloc_new]; rfl
            have hbe1 : Below w.heap.size w w1 := ((Below.refl _ _).alloc (Nat.le_refl _) _).trans (hb1.mono (by simp))
            clear hb1
            go_wp2_with fail
            go_ret2
            exact ⟨rfl, hbe1.alloc (by omega) _⟩
          · have ev : ampsV n = (n * 60 / 1000, 0) := by unfold ampsV; rw [if_neg h0, if_neg h1, if_neg h6, if_neg h80, if_neg h52]
            rw [ev]; clear ev
            go_enter Try.func12, Try.ntmps12
            go_wp2_with fail
            refine (find_amps_lo n w.heap.size _ (by rw [World.cell?_alloc_new]; rfl) (by simp) (by omega) (by omega)).mono ?_
            rintro e w1 ⟨rfl, hb1⟩
            have hz1 : w.heap.size < w1.heap.size := by have := hb1.size; simp at this; omega
            have hc1 : w1.cell? ⟨w.heap.size, 0, none⟩ = some (.int .i64 n) := by rw [hb1.cell (by simp), World.cell?_alloc_new]; rfl
            have hbe1 : Below w.heap.size w w1 := ((Below.refl _ _).alloc (Nat.le_refl _) _).trans (hb1.mono (by simp))
            clear hb1
            go_wp2_with fail
            go_ret2
            exact ⟨rfl, hbe1.alloc (by omega) _⟩

end Go.Proofs.Ytipoiifilnmagaa.Hand
