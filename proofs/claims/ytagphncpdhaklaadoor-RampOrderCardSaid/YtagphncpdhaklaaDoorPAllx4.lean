/- What the Go functions of this seat's laws return, told as Lean functions and proved by their walks; laid by a program of this session out of Lean's own print of the translation. No conditions of its own. -/
import Derived.Test.YtagphncpdhaklaaDoorPAllx0
import Derived.Test.YtagphncpdhaklaaDoorPAllx2
import Derived.Test.YtagphncpdhaklaaDoorPAllx3
namespace Go.Proofs.YtagphncpdhaklaaDoor.PAll
open Go.RowKit Go.Proofs.YtagphncpdhaklaaDoorW.PrintWords Go.Proofs.YtagphncpdhaklaaDoorW.PrintLast Go.Proofs.YtagphncpdhaklaaDoorW.PrintMore
attribute [local go_sem] max2_int min2_int max_two min_two max_three min_three max_four min_four   -- for this text's walks alone
set_option linter.unusedVariables false
set_option linter.unusedSimpArgs false

/-! ### ramp_is: function 21 -/
def ramp_is.f (a0 : Int) : Option (Int) := if a0 = 0 then (some 0) else (some 1)
set_option maxHeartbeats 8000000 in
set_option maxRecDepth 100000 in
theorem ramp_is.calls (a0 : Int) (r : Int) (w : World) (h : ramp_is.f a0 = some r) :
    Calls Tryd.prog 21 #[.int .i64 a0] w fun e w' => e = .returned (.int .i64 r) ∧ Drawn0 w w' := by
  have H : (if a0 = 0 then (some 0) else (some 1)) = some r := h
  clear h
  by_cases c2 : a0 = 0
  · rw [if_pos c2] at H
    have c2b0 : (a0 == 0) = true := beq_iff_eq.mpr c2
    have c2b1 : (a0 != 0) = false := bne_eq_false_iff_eq.mpr c2
    clear c2
    obtain rfl := Option.some.inj H
    simp only [Option.some.injEq, Prod.mk.injEq] at H
    obtain ⟨rfl⟩ := H
    go_enter Tryd.func21, Tryd.ntmps21
    go_wp2
    go_ret
    exact ⟨by first | rfl | (simp; done) | (simp [*]; done), by repeat (first | exact Drawn0.refl _ | apply Drawn0.step)⟩
  · rw [if_neg c2] at H
    have c2b0 : (a0 == 0) = false := beq_eq_false_iff_ne.mpr c2
    have c2b1 : (a0 != 0) = true := bne_iff_ne.mpr c2
    obtain rfl := Option.some.inj H
    simp only [Option.some.injEq, Prod.mk.injEq] at H
    obtain ⟨rfl⟩ := H
    go_enter Tryd.func21, Tryd.ntmps21
    go_wp2
    go_ret
    exact ⟨by first | rfl | (simp; done) | (simp [*]; done), by repeat (first | exact Drawn0.refl _ | apply Drawn0.step)⟩

/-! ### ramp_Next: function 10 -/
theorem bcell {W w1 : World} (hb : Below W.heap.size W w1) : (∀ b o, b < W.heap.size → w1.cell? ⟨b, o, none⟩ = W.cell? ⟨b, o, none⟩) ∧ (∀ b o, b < W.heap.size → w1.frozen? ⟨b, o, none⟩ = W.frozen? ⟨b, o, none⟩) :=
  ⟨fun b o h => hb.cell (p := ⟨b, o, none⟩) h, fun b o h => hb.frozen (p := ⟨b, o, none⟩) h⟩

/-- The three blocks that ramp.Next lays at its head: the charger, the ramp, the result. -/
structure Boxes (c0 : ByteArray) (c1 c2 c3 c4 c5 c6 c7 s0 s1 : Int) (w w' : World) : Prop where
  c : ∀ o, w'.cell? ⟨w.heap.size, o, none⟩ = #[Value.string c0, .int .i64 c1, .int .i64 c2, .int .i64 c3, .int .i64 c4, .int .i64 c5, .int .i64 c6, .int .i64 c7][o]?
  s : ∀ o, w'.cell? ⟨w.heap.size + 1, o, none⟩ = #[Value.int .i64 s0, .int .i64 s1][o]?
  r : ∀ o, w'.cell? ⟨w.heap.size + 1 + 1, o, none⟩ = #[Value.int .i64 0, .int .i64 0][o]?
  fr : ∀ o, w'.frozen? ⟨w.heap.size + 1 + 1, o, none⟩ = false
  lt : w.heap.size + 1 + 1 < w'.heap.size
  b : Below w.heap.size w w'

theorem Boxes.start (c0 : ByteArray) (c1 c2 c3 c4 c5 c6 c7 s0 s1 : Int) (w : World) : Boxes c0 c1 c2 c3 c4 c5 c6 c7 s0 s1 w (((w.alloc (.cells #[.string c0, .int .i64 c1, .int .i64 c2, .int .i64 c3, .int .i64 c4, .int .i64 c5, .int .i64 c6, .int .i64 c7] 23)).alloc (.cells #[.int .i64 s0, .int .i64 s1] 25)).alloc (.cells #[.int .i64 0, .int .i64 0] 25)) where
  c o := by rw [World.cell?_alloc_past _ _ _ (by simp; omega), World.cell?_alloc_past _ _ _ (by simp), World.cell?_alloc_new]
  s o := by
    rw [World.cell?_alloc_past _ _ _ (by simp)]
    exact World.cell?_alloc_at _ _ _ _ (by simp)
  r o := World.cell?_alloc_at _ _ _ _ (by simp)
  fr o := by
    have := World.frozen?_alloc_new ((w.alloc (.cells #[.string c0, .int .i64 c1, .int .i64 c2, .int .i64 c3, .int .i64 c4, .int .i64 c5, .int .i64 c6, .int .i64 c7] 23)).alloc (.cells #[.int .i64 s0, .int .i64 s1] 25)) #[.int .i64 0, .int .i64 0] 25 o
    simpa only [World.size_alloc] using this
  lt := by simp
  b := (((Below.refl _ _).alloc (Nat.le_refl _) _).alloc (by simp) _).alloc (by simp; omega) _

theorem Boxes.below {c0 : ByteArray} {c1 c2 c3 c4 c5 c6 c7 s0 s1 : Int} {w w1 w2 : World} (h : Boxes c0 c1 c2 c3 c4 c5 c6 c7 s0 s1 w w1) (hb : Below w1.heap.size w1 w2) : Boxes c0 c1 c2 c3 c4 c5 c6 c7 s0 s1 w w2 where
  c o := (hb.cell (by have := h.lt; simp; omega)).trans (h.c o)
  s o := (hb.cell (by have := h.lt; simp; omega)).trans (h.s o)
  r o := (hb.cell (by have := h.lt; simp; omega)).trans (h.r o)
  fr o := (hb.frozen (by have := h.lt; simp; omega)).trans (h.fr o)
  lt := Nat.lt_of_lt_of_le h.lt hb.size
  b := h.b.trans (hb.mono (by have := h.lt; omega))

theorem below_r {w w1 : World} (h : Below w.heap.size w w1) {k0 k1 : Nat} (l0 : w.heap.size ≤ k0) (l1 : w.heap.size ≤ k1) (v0 v1 : Value) :
    Below w.heap.size w ((w1.setCell ⟨k0, 0, none⟩ v0).setCell ⟨k1, 1, none⟩ v1) :=
  (h.setCell l0 _).setCell l1 _

/-- The closure give: the ramp with its Since one more. -/
theorem give_any (a n : Int) (b : Nat) (w : World) (hc : w.cell? ⟨b, 1, none⟩ = some (.int .i64 n)) (hb : b < w.heap.size) (n0 : 0 ≤ n) (n1 : n ≤ 1000000) (r : Int) (hr : Hid (r = Hand.sinceV n)) :
    Calls Tryd.prog 19 #[.int .i64 a, .pointer (some ⟨b, 0, none⟩)] w fun e w' => e = .returned (.tuple #[.agg #[.int .i64 a, .int .i64 r], .int .i64 0]) ∧ Below w.heap.size w w' := by
  by_cases hn : n < 1000000
  · obtain rfl : r = n + 1 := by rw [hr.out]; unfold Hand.sinceV; rw [if_neg (by omega)]
    clear hr
    go_enter Tryd.func19, Tryd.ntmps19
    go_wp2
    go_returns
    exact ⟨rfl, by go_grown⟩
  · obtain rfl : n = 1000000 := by omega
    obtain rfl : r = 1000000 := by rw [hr.out]; rfl
    clear hr hn n0 n1
    go_enter Tryd.func19, Tryd.ntmps19
    go_wp2
    go_returns
    exact ⟨rfl, by go_grown⟩

theorem turn_any (a : Int) (w : World) :
    Calls Tryd.prog 20 #[.int .i64 a] w fun e w' => e = .returned (.tuple #[.agg #[.int .i64 a, .int .i64 0], .int .i64 0]) ∧ Below w.heap.size w w' := by
  go_enter Tryd.func20, Tryd.ntmps20
  go_wp2
  go_returns
  exact ⟨rfl, by go_grown⟩

def ramp_Next.f (a0_0 : ByteArray) (a0_1 : Int) (a0_2 : Int) (a0_3 : Int) (a0_4 : Int) (a0_5 : Int) (a0_6 : Int) (a0_7 : Int) (a1_0 : Int) (a1_1 : Int) (a2 : Int) : Option (Int × Int × Int) :=
  (ramp_Valid.f a0_0 a0_1 a0_2 a0_3 a0_4 a0_5 a0_6 a0_7 a1_0 a1_1).bind fun v => if v = true then (if a2 < 0 then some (0, 0, 1) else if 80 < a2 then some (0, 0, 1) else (ramp_ladder_below.f a0_0 a0_1 a0_2 a0_3 a0_4 a0_5 a0_6 a0_7 a2).bind fun level => some ((Hand.nextV a0_3 a0_5 a1_0 a1_1 level).1, (Hand.nextV a0_3 a0_5 a1_0 a1_1 level).2, 0)) else some (0, 0, 1)

set_option maxHeartbeats 8000000 in
set_option maxRecDepth 100000 in
theorem next_invalid (c0 : ByteArray) (c1 c2 c3 c4 c5 c6 c7 s0 s1 want : Int) (w : World) (hv : ramp_Valid.f c0 c1 c2 c3 c4 c5 c6 c7 s0 s1 = some false) :
    Calls Tryd.prog 10 #[.agg #[.string c0, .int .i64 c1, .int .i64 c2, .int .i64 c3, .int .i64 c4, .int .i64 c5, .int .i64 c6, .int .i64 c7], .agg #[.int .i64 s0, .int .i64 s1], .int .i64 want] w
      fun e w' => e = .returned (.tuple #[.agg #[.int .i64 0, .int .i64 0], .int .i64 1]) ∧ Below w.heap.size w w' := by
  have HV := Aside0.mk hv
  clear hv
  go_enter Tryd.func10, Tryd.ntmps10
  go_wp2_with fail
  refine (ramp_Valid.calls _ _ _ _ _ _ _ _ _ _ false _ HV.out).mono ?_
  rintro e w1 ⟨rfl, hb1⟩
  have B1 := (Boxes.start c0 c1 c2 c3 c4 c5 c6 c7 s0 s1 w).below hb1
  clear hb1 HV
  obtain ⟨hc, hs, hr, hfr, hlt, hbe⟩ := B1
  have HBE := Aside0.mk hbe
  clear hbe
  have hl0 : w.heap.size < w1.heap.size := by omega
  have hl1 : w.heap.size + 1 < w1.heap.size := by omega
  go_wp2_with fail
  refine bodyPost_ret (v := .tuple #[.agg #[.int .i64 0, .int .i64 0], .int .i64 1]) (by simp [results, Tryd.results10, go_sem, hr]; try rfl) rfl ⟨rfl, ?_⟩
  exact below_r HBE.out (by omega) (by omega) _ _

set_option maxHeartbeats 8000000 in
set_option maxRecDepth 100000 in
theorem next_low (c0 : ByteArray) (c1 c2 c3 c4 c5 c6 c7 s0 s1 want : Int) (w : World) (hv : ramp_Valid.f c0 c1 c2 c3 c4 c5 c6 c7 s0 s1 = some true) (hw : want < 0) :
    Calls Tryd.prog 10 #[.agg #[.string c0, .int .i64 c1, .int .i64 c2, .int .i64 c3, .int .i64 c4, .int .i64 c5, .int .i64 c6, .int .i64 c7], .agg #[.int .i64 s0, .int .i64 s1], .int .i64 want] w
      fun e w' => e = .returned (.tuple #[.agg #[.int .i64 0, .int .i64 0], .int .i64 1]) ∧ Below w.heap.size w w' := by
  have HV := Aside0.mk hv
  clear hv
  go_enter Tryd.func10, Tryd.ntmps10
  go_wp2_with fail
  refine (ramp_Valid.calls _ _ _ _ _ _ _ _ _ _ true _ HV.out).mono ?_
  rintro e w1 ⟨rfl, hb1⟩
  have B1 := (Boxes.start c0 c1 c2 c3 c4 c5 c6 c7 s0 s1 w).below hb1
  clear hb1 HV
  obtain ⟨hc, hs, hr, hfr, hlt, hbe⟩ := B1
  have HBE := Aside0.mk hbe
  clear hbe
  have hl0 : w.heap.size < w1.heap.size := by omega
  have hl1 : w.heap.size + 1 < w1.heap.size := by omega
  go_wp2_with fail
  refine bodyPost_ret (v := .tuple #[.agg #[.int .i64 0, .int .i64 0], .int .i64 1]) (by simp [results, Tryd.results10, go_sem, hr]; try rfl) rfl ⟨rfl, ?_⟩
  exact below_r HBE.out (by omega) (by omega) _ _

set_option maxHeartbeats 8000000 in
set_option maxRecDepth 100000 in
theorem next_high (c0 : ByteArray) (c1 c2 c3 c4 c5 c6 c7 s0 s1 want : Int) (w : World) (hv : ramp_Valid.f c0 c1 c2 c3 c4 c5 c6 c7 s0 s1 = some true) (hw0 : 0 ≤ want) (hw : 80 < want) :
    Calls Tryd.prog 10 #[.agg #[.string c0, .int .i64 c1, .int .i64 c2, .int .i64 c3, .int .i64 c4, .int .i64 c5, .int .i64 c6, .int .i64 c7], .agg #[.int .i64 s0, .int .i64 s1], .int .i64 want] w
      fun e w' => e = .returned (.tuple #[.agg #[.int .i64 0, .int .i64 0], .int .i64 1]) ∧ Below w.heap.size w w' := by
  have HV := Aside0.mk hv
  clear hv
  go_enter Tryd.func10, Tryd.ntmps10
  go_wp2_with fail
  refine (ramp_Valid.calls _ _ _ _ _ _ _ _ _ _ true _ HV.out).mono ?_
  rintro e w1 ⟨rfl, hb1⟩
  have B1 := (Boxes.start c0 c1 c2 c3 c4 c5 c6 c7 s0 s1 w).below hb1
  clear hb1 HV
  obtain ⟨hc, hs, hr, hfr, hlt, hbe⟩ := B1
  have HBE := Aside0.mk hbe
  clear hbe
  have hl0 : w.heap.size < w1.heap.size := by omega
  have hl1 : w.heap.size + 1 < w1.heap.size := by omega
  go_wp2_with fail
  refine bodyPost_ret (v := .tuple #[.agg #[.int .i64 0, .int .i64 0], .int .i64 1]) (by simp [results, Tryd.results10, go_sem, hr]; try rfl) rfl ⟨rfl, ?_⟩
  exact below_r HBE.out (by omega) (by omega) _ _

theorem is_0 (w : World) : Calls Tryd.prog 21 #[.int .i64 0] w fun e w' => e = .returned (.int .i64 0) ∧ w' = w := by
  go_enter Tryd.func21, Tryd.ntmps21
  go_wp2
  go_ret
  exact ⟨rfl, rfl⟩
theorem is_1 (n : Int) (w : World) (h : (n == 0) = false) (h' : (n != 0) = true) : Calls Tryd.prog 21 #[.int .i64 n] w fun e w' => e = .returned (.int .i64 1) ∧ w' = w := by
  go_enter Tryd.func21, Tryd.ntmps21
  go_wp2
  go_ret
  exact ⟨rfl, rfl⟩

set_option maxHeartbeats 8000000 in
set_option maxRecDepth 100000 in
theorem next_off (c0 : ByteArray) (c1 c2 c3 c4 c5 c6 c7 s0 s1 want : Int) (w : World) (hv : ramp_Valid.f c0 c1 c2 c3 c4 c5 c6 c7 s0 s1 = some true) (hG : Hand.G w) (hw0 : 0 ≤ want) (hw1 : want ≤ 80) (level : Int) (hL : ramp_ladder_below.f c0 c1 c2 c3 c4 c5 c6 c7 want = some level) (s10 : 0 ≤ s1) (s11 : s1 ≤ 1000000) (s00 : 0 ≤ s0) (s01 : s0 ≤ 80) (l0 : 0 ≤ level) (l1 : level ≤ 80) (p0 : 0 ≤ c5) (p1 : c5 ≤ 80) (hs0 : Hid (s0 = 0)) (hlv : Hid (level = 0)) (r : Int) (hr : Hid (r = Hand.sinceV s1)) :
    Calls Tryd.prog 10 #[.agg #[.string c0, .int .i64 c1, .int .i64 c2, .int .i64 c3, .int .i64 c4, .int .i64 c5, .int .i64 c6, .int .i64 c7], .agg #[.int .i64 s0, .int .i64 s1], .int .i64 want] w
      fun e w' => e = .returned (.tuple #[.agg #[.int .i64 0, .int .i64 r], .int .i64 0]) ∧ Below w.heap.size w w' := by
  have HL := Aside0.mk hL
  clear hL
  have HV := Aside0.mk hv
  clear hv
  go_enter Tryd.func10, Tryd.ntmps10
  go_wp2_with fail
  refine (ramp_Valid.calls _ _ _ _ _ _ _ _ _ _ true _ HV.out).mono ?_
  rintro e w1 ⟨rfl, hb1⟩
  have B1 := (Boxes.start c0 c1 c2 c3 c4 c5 c6 c7 s0 s1 w).below hb1
  clear hb1 HV
  obtain ⟨hc, hs, hr, hfr, hlt, hbe⟩ := B1
  have HBE := Aside0.mk hbe
  clear hbe
  have hl0 : w.heap.size < w1.heap.size := by omega
  have hl1 : w.heap.size + 1 < w1.heap.size := by omega
  go_wp2_with fail
  refine (ramp_ladder_below.calls _ _ _ _ _ _ _ _ _ level _ HL.out).mono ?_
  rintro e w2 ⟨rfl, hb2⟩
  have gc : ∀ b o, b < w1.heap.size → w2.cell? ⟨b, o, none⟩ = w1.cell? ⟨b, o, none⟩ := fun b o hb => by
    rw [hb2.cell (by simp; omega), World.cell?_alloc_past _ _ _ hb]
  have gs : ∀ o, w2.cell? ⟨w.heap.size + 1, o, none⟩ = #[Value.int .i64 s0, .int .i64 s1][o]? := fun o => by rw [gc _ _ hl1, hs]
  have gr : ∀ o, w2.cell? ⟨w.heap.size + 1 + 1, o, none⟩ = #[Value.int .i64 0, .int .i64 0][o]? := fun o => by rw [gc _ _ hlt, hr]
  have gl : ∀ o, w2.cell? ⟨w1.heap.size, o, none⟩ = #[Value.string c0, .int .i64 c1, .int .i64 c2, .int .i64 c3, .int .i64 c4, .int .i64 c5, .int .i64 c6, .int .i64 c7][o]? := fun o => by
    rw [hb2.cell (by simp), World.cell?_alloc_new]
  have gfr : ∀ o, w2.frozen? ⟨w.heap.size + 1 + 1, o, none⟩ = false := fun o => by rw [hb2.frozen (by simp; omega), frozen?_alloc_cells, hfr]
  have hz2 : w1.heap.size + 1 ≤ w2.heap.size := by have := hb2.size; simpa using this
  have GB : Aside0 (Below w.heap.size w w2) := Aside0.mk ((HBE.out.alloc (by omega) _).trans (hb2.mono (by simp; omega)))
  have G2 := Aside0.mk (hG.below GB.out)
  have m0 := G2.out.c0
  have m1 := G2.out.c1
  have m2 := G2.out.c2
  have m3 := G2.out.c3
  clear gc hb2 hc hs hr hfr HBE hlt G2 hG
  have gz1 : w.heap.size + 1 < w2.heap.size := by omega
  go_wp2_with fail
  obtain rfl := hs0.out
  clear hs0
  obtain rfl := hlv.out
  clear hlv
  go_quiet ((first | (go_at_call 21; exact Calls.quiet_of_same (is_0 _)) | (go_at_call 21; exact Calls.quiet_of_same (is_0 _))))
  go_wp2_with fail
  refine (give_any _ s1 (w.heap.size + 1) _ (by exact gs 1) (by exact gz1) s10 s11 r hr).mono ?_
  rintro e w3 ⟨rfl, hb3⟩
  have kr : ∀ o, w3.cell? ⟨w.heap.size + 1 + 1, o, none⟩ = #[Value.int .i64 0, .int .i64 0][o]? := fun o => (hb3.cell (by simp; omega)).trans (gr o)
  have kf : ∀ o, w3.frozen? ⟨w.heap.size + 1 + 1, o, none⟩ = false := fun o => (hb3.frozen (by simp; omega)).trans (gfr o)
  have KB : Aside0 (Below w.heap.size w w3) := Aside0.mk ((pw_below_drewN GB.out _).trans (hb3.mono (by simp; omega)))
  clear hb3 gs gr gl gfr GB m0 m1 m2 m3 hr
  go_wp2_with fail
  refine bodyPost_ret (v := .tuple #[.agg #[.int .i64 0, .int .i64 r], .int .i64 0]) (by simp [results, Tryd.results10, go_sem, kr]; try rfl) rfl ⟨rfl, ?_⟩
  exact below_r KB.out (by omega) (by omega) _ _

set_option maxHeartbeats 8000000 in
set_option maxRecDepth 100000 in
theorem next_wait (c0 : ByteArray) (c1 c2 c3 c4 c5 c6 c7 s0 s1 want : Int) (w : World) (hv : ramp_Valid.f c0 c1 c2 c3 c4 c5 c6 c7 s0 s1 = some true) (hG : Hand.G w) (hw0 : 0 ≤ want) (hw1 : want ≤ 80) (level : Int) (hL : ramp_ladder_below.f c0 c1 c2 c3 c4 c5 c6 c7 want = some level) (s10 : 0 ≤ s1) (s11 : s1 ≤ 1000000) (s00 : 0 ≤ s0) (s01 : s0 ≤ 80) (l0 : 0 ≤ level) (l1 : level ≤ 80) (p0 : 0 ≤ c5) (p1 : c5 ≤ 80) (hs0 : Hid (s0 = 0)) (h1 : (level == 0) = false) (h1' : (level != 0) = true) (h5 : s1 < 5) (r : Int) (hr : Hid (r = Hand.sinceV s1)) :
    Calls Tryd.prog 10 #[.agg #[.string c0, .int .i64 c1, .int .i64 c2, .int .i64 c3, .int .i64 c4, .int .i64 c5, .int .i64 c6, .int .i64 c7], .agg #[.int .i64 s0, .int .i64 s1], .int .i64 want] w
      fun e w' => e = .returned (.tuple #[.agg #[.int .i64 0, .int .i64 r], .int .i64 0]) ∧ Below w.heap.size w w' := by
  have HL := Aside0.mk hL
  clear hL
  have HV := Aside0.mk hv
  clear hv
  go_enter Tryd.func10, Tryd.ntmps10
  go_wp2_with fail
  refine (ramp_Valid.calls _ _ _ _ _ _ _ _ _ _ true _ HV.out).mono ?_
  rintro e w1 ⟨rfl, hb1⟩
  have B1 := (Boxes.start c0 c1 c2 c3 c4 c5 c6 c7 s0 s1 w).below hb1
  clear hb1 HV
  obtain ⟨hc, hs, hr, hfr, hlt, hbe⟩ := B1
  have HBE := Aside0.mk hbe
  clear hbe
  have hl0 : w.heap.size < w1.heap.size := by omega
  have hl1 : w.heap.size + 1 < w1.heap.size := by omega
  go_wp2_with fail
  refine (ramp_ladder_below.calls _ _ _ _ _ _ _ _ _ level _ HL.out).mono ?_
  rintro e w2 ⟨rfl, hb2⟩
  have gc : ∀ b o, b < w1.heap.size → w2.cell? ⟨b, o, none⟩ = w1.cell? ⟨b, o, none⟩ := fun b o hb => by
    rw [hb2.cell (by simp; omega), World.cell?_alloc_past _ _ _ hb]
  have gs : ∀ o, w2.cell? ⟨w.heap.size + 1, o, none⟩ = #[Value.int .i64 s0, .int .i64 s1][o]? := fun o => by rw [gc _ _ hl1, hs]
  have gr : ∀ o, w2.cell? ⟨w.heap.size + 1 + 1, o, none⟩ = #[Value.int .i64 0, .int .i64 0][o]? := fun o => by rw [gc _ _ hlt, hr]
  have gl : ∀ o, w2.cell? ⟨w1.heap.size, o, none⟩ = #[Value.string c0, .int .i64 c1, .int .i64 c2, .int .i64 c3, .int .i64 c4, .int .i64 c5, .int .i64 c6, .int .i64 c7][o]? := fun o => by
    rw [hb2.cell (by simp), World.cell?_alloc_new]
  have gfr : ∀ o, w2.frozen? ⟨w.heap.size + 1 + 1, o, none⟩ = false := fun o => by rw [hb2.frozen (by simp; omega), frozen?_alloc_cells, hfr]
  have hz2 : w1.heap.size + 1 ≤ w2.heap.size := by have := hb2.size; simpa using this
  have GB : Aside0 (Below w.heap.size w w2) := Aside0.mk ((HBE.out.alloc (by omega) _).trans (hb2.mono (by simp; omega)))
  have G2 := Aside0.mk (hG.below GB.out)
  have m0 := G2.out.c0
  have m1 := G2.out.c1
  have m2 := G2.out.c2
  have m3 := G2.out.c3
  clear gc hb2 hc hs hr hfr HBE hlt G2 hG
  have gz1 : w.heap.size + 1 < w2.heap.size := by omega
  go_wp2_with fail
  obtain rfl := hs0.out
  clear hs0
  go_quiet ((first | (go_at_call 21; exact Calls.quiet_of_same (is_0 _)) | (go_at_call 21; exact Calls.quiet_of_same (is_1 level _ h1 h1'))))
  go_wp2_with fail
  refine (give_any _ s1 (w.heap.size + 1) _ (by exact gs 1) (by exact gz1) s10 s11 r hr).mono ?_
  rintro e w3 ⟨rfl, hb3⟩
  have kr : ∀ o, w3.cell? ⟨w.heap.size + 1 + 1, o, none⟩ = #[Value.int .i64 0, .int .i64 0][o]? := fun o => (hb3.cell (by simp; omega)).trans (gr o)
  have kf : ∀ o, w3.frozen? ⟨w.heap.size + 1 + 1, o, none⟩ = false := fun o => (hb3.frozen (by simp; omega)).trans (gfr o)
  have KB : Aside0 (Below w.heap.size w w3) := Aside0.mk ((pw_below_drewN GB.out _).trans (hb3.mono (by simp; omega)))
  clear hb3 gs gr gl gfr GB m0 m1 m2 m3 hr
  go_wp2_with fail
  refine bodyPost_ret (v := .tuple #[.agg #[.int .i64 0, .int .i64 r], .int .i64 0]) (by simp [results, Tryd.results10, go_sem, kr]; try rfl) rfl ⟨rfl, ?_⟩
  exact below_r KB.out (by omega) (by omega) _ _

set_option maxHeartbeats 8000000 in
set_option maxRecDepth 100000 in
theorem next_on (c0 : ByteArray) (c1 c2 c3 c4 c5 c6 c7 s0 s1 want : Int) (w : World) (hv : ramp_Valid.f c0 c1 c2 c3 c4 c5 c6 c7 s0 s1 = some true) (hG : Hand.G w) (hw0 : 0 ≤ want) (hw1 : want ≤ 80) (level : Int) (hL : ramp_ladder_below.f c0 c1 c2 c3 c4 c5 c6 c7 want = some level) (s10 : 0 ≤ s1) (s11 : s1 ≤ 1000000) (s00 : 0 ≤ s0) (s01 : s0 ≤ 80) (l0 : 0 ≤ level) (l1 : level ≤ 80) (p0 : 0 ≤ c5) (p1 : c5 ≤ 80) (hs0 : Hid (s0 = 0)) (h1 : (level == 0) = false) (h1' : (level != 0) = true) (h5 : 5 ≤ s1) :
    Calls Tryd.prog 10 #[.agg #[.string c0, .int .i64 c1, .int .i64 c2, .int .i64 c3, .int .i64 c4, .int .i64 c5, .int .i64 c6, .int .i64 c7], .agg #[.int .i64 s0, .int .i64 s1], .int .i64 want] w
      fun e w' => e = .returned (.tuple #[.agg #[.int .i64 c3, .int .i64 0], .int .i64 0]) ∧ Below w.heap.size w w' := by
  have HL := Aside0.mk hL
  clear hL
  have HV := Aside0.mk hv
  clear hv
  go_enter Tryd.func10, Tryd.ntmps10
  go_wp2_with fail
  refine (ramp_Valid.calls _ _ _ _ _ _ _ _ _ _ true _ HV.out).mono ?_
  rintro e w1 ⟨rfl, hb1⟩
  have B1 := (Boxes.start c0 c1 c2 c3 c4 c5 c6 c7 s0 s1 w).below hb1
  clear hb1 HV
  obtain ⟨hc, hs, hr, hfr, hlt, hbe⟩ := B1
  have HBE := Aside0.mk hbe
  clear hbe
  have hl0 : w.heap.size < w1.heap.size := by omega
  have hl1 : w.heap.size + 1 < w1.heap.size := by omega
  go_wp2_with fail
  refine (ramp_ladder_below.calls _ _ _ _ _ _ _ _ _ level _ HL.out).mono ?_
  rintro e w2 ⟨rfl, hb2⟩
  have gc : ∀ b o, b < w1.heap.size → w2.cell? ⟨b, o, none⟩ = w1.cell? ⟨b, o, none⟩ := fun b o hb => by
    rw [hb2.cell (by simp; omega), World.cell?_alloc_past _ _ _ hb]
  have gs : ∀ o, w2.cell? ⟨w.heap.size + 1, o, none⟩ = #[Value.int .i64 s0, .int .i64 s1][o]? := fun o => by rw [gc _ _ hl1, hs]
  have gr : ∀ o, w2.cell? ⟨w.heap.size + 1 + 1, o, none⟩ = #[Value.int .i64 0, .int .i64 0][o]? := fun o => by rw [gc _ _ hlt, hr]
  have gl : ∀ o, w2.cell? ⟨w1.heap.size, o, none⟩ = #[Value.string c0, .int .i64 c1, .int .i64 c2, .int .i64 c3, .int .i64 c4, .int .i64 c5, .int .i64 c6, .int .i64 c7][o]? := fun o => by
    rw [hb2.cell (by simp), World.cell?_alloc_new]
  have gfr : ∀ o, w2.frozen? ⟨w.heap.size + 1 + 1, o, none⟩ = false := fun o => by rw [hb2.frozen (by simp; omega), frozen?_alloc_cells, hfr]
  have hz2 : w1.heap.size + 1 ≤ w2.heap.size := by have := hb2.size; simpa using this
  have GB : Aside0 (Below w.heap.size w w2) := Aside0.mk ((HBE.out.alloc (by omega) _).trans (hb2.mono (by simp; omega)))
  have G2 := Aside0.mk (hG.below GB.out)
  have m0 := G2.out.c0
  have m1 := G2.out.c1
  have m2 := G2.out.c2
  have m3 := G2.out.c3
  clear gc hb2 hc hs hr hfr HBE hlt G2 hG
  have gz1 : w.heap.size + 1 < w2.heap.size := by omega
  go_wp2_with fail
  obtain rfl := hs0.out
  clear hs0
  go_quiet ((first | (go_at_call 21; exact Calls.quiet_of_same (is_0 _)) | (go_at_call 21; exact Calls.quiet_of_same (is_1 level _ h1 h1'))))
  go_wp2_with fail
  refine (turn_any c3 _).mono ?_
  rintro e w3 ⟨rfl, hb3⟩
  have kr : ∀ o, w3.cell? ⟨w.heap.size + 1 + 1, o, none⟩ = #[Value.int .i64 0, .int .i64 0][o]? := fun o => (hb3.cell (by simp; omega)).trans (gr o)
  have kf : ∀ o, w3.frozen? ⟨w.heap.size + 1 + 1, o, none⟩ = false := fun o => (hb3.frozen (by simp; omega)).trans (gfr o)
  have KB : Aside0 (Below w.heap.size w w3) := Aside0.mk ((pw_below_drewN GB.out _).trans (hb3.mono (by simp; omega)))
  clear hb3 gs gr gl gfr GB m0 m1 m2 m3
  go_wp2_with fail
  refine bodyPost_ret (v := .tuple #[.agg #[.int .i64 c3, .int .i64 0], .int .i64 0]) (by simp [results, Tryd.results10, go_sem, kr]; try rfl) rfl ⟨rfl, ?_⟩
  exact below_r KB.out (by omega) (by omega) _ _

set_option maxHeartbeats 8000000 in
set_option maxRecDepth 100000 in
theorem next_out (c0 : ByteArray) (c1 c2 c3 c4 c5 c6 c7 s0 s1 want : Int) (w : World) (hv : ramp_Valid.f c0 c1 c2 c3 c4 c5 c6 c7 s0 s1 = some true) (hG : Hand.G w) (hw0 : 0 ≤ want) (hw1 : want ≤ 80) (level : Int) (hL : ramp_ladder_below.f c0 c1 c2 c3 c4 c5 c6 c7 want = some level) (s10 : 0 ≤ s1) (s11 : s1 ≤ 1000000) (s00 : 0 ≤ s0) (s01 : s0 ≤ 80) (l0 : 0 ≤ level) (l1 : level ≤ 80) (p0 : 0 ≤ c5) (p1 : c5 ≤ 80) (h0 : (s0 == 0) = false) (h0' : (s0 != 0) = true) (hlv : Hid (level = 0)) :
    Calls Tryd.prog 10 #[.agg #[.string c0, .int .i64 c1, .int .i64 c2, .int .i64 c3, .int .i64 c4, .int .i64 c5, .int .i64 c6, .int .i64 c7], .agg #[.int .i64 s0, .int .i64 s1], .int .i64 want] w
      fun e w' => e = .returned (.tuple #[.agg #[.int .i64 0, .int .i64 0], .int .i64 0]) ∧ Below w.heap.size w w' := by
  have HL := Aside0.mk hL
  clear hL
  have HV := Aside0.mk hv
  clear hv
  go_enter Tryd.func10, Tryd.ntmps10
  go_wp2_with fail
  refine (ramp_Valid.calls _ _ _ _ _ _ _ _ _ _ true _ HV.out).mono ?_
  rintro e w1 ⟨rfl, hb1⟩
  have B1 := (Boxes.start c0 c1 c2 c3 c4 c5 c6 c7 s0 s1 w).below hb1
  clear hb1 HV
  obtain ⟨hc, hs, hr, hfr, hlt, hbe⟩ := B1
  have HBE := Aside0.mk hbe
  clear hbe
  have hl0 : w.heap.size < w1.heap.size := by omega
  have hl1 : w.heap.size + 1 < w1.heap.size := by omega
  go_wp2_with fail
  refine (ramp_ladder_below.calls _ _ _ _ _ _ _ _ _ level _ HL.out).mono ?_
  rintro e w2 ⟨rfl, hb2⟩
  have gc : ∀ b o, b < w1.heap.size → w2.cell? ⟨b, o, none⟩ = w1.cell? ⟨b, o, none⟩ := fun b o hb => by
    rw [hb2.cell (by simp; omega), World.cell?_alloc_past _ _ _ hb]
  have gs : ∀ o, w2.cell? ⟨w.heap.size + 1, o, none⟩ = #[Value.int .i64 s0, .int .i64 s1][o]? := fun o => by rw [gc _ _ hl1, hs]
  have gr : ∀ o, w2.cell? ⟨w.heap.size + 1 + 1, o, none⟩ = #[Value.int .i64 0, .int .i64 0][o]? := fun o => by rw [gc _ _ hlt, hr]
  have gl : ∀ o, w2.cell? ⟨w1.heap.size, o, none⟩ = #[Value.string c0, .int .i64 c1, .int .i64 c2, .int .i64 c3, .int .i64 c4, .int .i64 c5, .int .i64 c6, .int .i64 c7][o]? := fun o => by
    rw [hb2.cell (by simp), World.cell?_alloc_new]
  have gfr : ∀ o, w2.frozen? ⟨w.heap.size + 1 + 1, o, none⟩ = false := fun o => by rw [hb2.frozen (by simp; omega), frozen?_alloc_cells, hfr]
  have hz2 : w1.heap.size + 1 ≤ w2.heap.size := by have := hb2.size; simpa using this
  have GB : Aside0 (Below w.heap.size w w2) := Aside0.mk ((HBE.out.alloc (by omega) _).trans (hb2.mono (by simp; omega)))
  have G2 := Aside0.mk (hG.below GB.out)
  have m0 := G2.out.c0
  have m1 := G2.out.c1
  have m2 := G2.out.c2
  have m3 := G2.out.c3
  clear gc hb2 hc hs hr hfr HBE hlt G2 hG
  have gz1 : w.heap.size + 1 < w2.heap.size := by omega
  go_wp2_with fail
  obtain rfl := hlv.out
  clear hlv
  go_quiet ((first | (go_at_call 21; exact Calls.quiet_of_same (is_1 s0 _ h0 h0')) | (go_at_call 21; exact Calls.quiet_of_same (is_0 _))))
  go_wp2_with fail
  refine (turn_any 0 _).mono ?_
  rintro e w3 ⟨rfl, hb3⟩
  have kr : ∀ o, w3.cell? ⟨w.heap.size + 1 + 1, o, none⟩ = #[Value.int .i64 0, .int .i64 0][o]? := fun o => (hb3.cell (by simp; omega)).trans (gr o)
  have kf : ∀ o, w3.frozen? ⟨w.heap.size + 1 + 1, o, none⟩ = false := fun o => (hb3.frozen (by simp; omega)).trans (gfr o)
  have KB : Aside0 (Below w.heap.size w w3) := Aside0.mk ((pw_below_drewN GB.out _).trans (hb3.mono (by simp; omega)))
  clear hb3 gs gr gl gfr GB m0 m1 m2 m3
  go_wp2_with fail
  refine bodyPost_ret (v := .tuple #[.agg #[.int .i64 0, .int .i64 0], .int .i64 0]) (by simp [results, Tryd.results10, go_sem, kr]; try rfl) rfl ⟨rfl, ?_⟩
  exact below_r KB.out (by omega) (by omega) _ _

set_option maxHeartbeats 8000000 in
set_option maxRecDepth 100000 in
theorem next_less (c0 : ByteArray) (c1 c2 c3 c4 c5 c6 c7 s0 s1 want : Int) (w : World) (hv : ramp_Valid.f c0 c1 c2 c3 c4 c5 c6 c7 s0 s1 = some true) (hG : Hand.G w) (hw0 : 0 ≤ want) (hw1 : want ≤ 80) (level : Int) (hL : ramp_ladder_below.f c0 c1 c2 c3 c4 c5 c6 c7 want = some level) (s10 : 0 ≤ s1) (s11 : s1 ≤ 1000000) (s00 : 0 ≤ s0) (s01 : s0 ≤ 80) (l0 : 0 ≤ level) (l1 : level ≤ 80) (p0 : 0 ≤ c5) (p1 : c5 ≤ 80) (h0 : (s0 == 0) = false) (h0' : (s0 != 0) = true) (h1 : (level == 0) = false) (h1' : (level != 0) = true) (hm : s0 + c5 < level) (r : Int) (hr : Hid (r = Hand.sinceV s1)) :
    Calls Tryd.prog 10 #[.agg #[.string c0, .int .i64 c1, .int .i64 c2, .int .i64 c3, .int .i64 c4, .int .i64 c5, .int .i64 c6, .int .i64 c7], .agg #[.int .i64 s0, .int .i64 s1], .int .i64 want] w
      fun e w' => e = .returned (.tuple #[.agg #[.int .i64 (s0 + c5), .int .i64 r], .int .i64 0]) ∧ Below w.heap.size w w' := by
  have HL := Aside0.mk hL
  clear hL
  have HV := Aside0.mk hv
  clear hv
  go_enter Tryd.func10, Tryd.ntmps10
  go_wp2_with fail
  refine (ramp_Valid.calls _ _ _ _ _ _ _ _ _ _ true _ HV.out).mono ?_
  rintro e w1 ⟨rfl, hb1⟩
  have B1 := (Boxes.start c0 c1 c2 c3 c4 c5 c6 c7 s0 s1 w).below hb1
  clear hb1 HV
  obtain ⟨hc, hs, hr, hfr, hlt, hbe⟩ := B1
  have HBE := Aside0.mk hbe
  clear hbe
  have hl0 : w.heap.size < w1.heap.size := by omega
  have hl1 : w.heap.size + 1 < w1.heap.size := by omega
  go_wp2_with fail
  refine (ramp_ladder_below.calls _ _ _ _ _ _ _ _ _ level _ HL.out).mono ?_
  rintro e w2 ⟨rfl, hb2⟩
  have gc : ∀ b o, b < w1.heap.size → w2.cell? ⟨b, o, none⟩ = w1.cell? ⟨b, o, none⟩ := fun b o hb => by
    rw [hb2.cell (by simp; omega), World.cell?_alloc_past _ _ _ hb]
  have gs : ∀ o, w2.cell? ⟨w.heap.size + 1, o, none⟩ = #[Value.int .i64 s0, .int .i64 s1][o]? := fun o => by rw [gc _ _ hl1, hs]
  have gr : ∀ o, w2.cell? ⟨w.heap.size + 1 + 1, o, none⟩ = #[Value.int .i64 0, .int .i64 0][o]? := fun o => by rw [gc _ _ hlt, hr]
  have gl : ∀ o, w2.cell? ⟨w1.heap.size, o, none⟩ = #[Value.string c0, .int .i64 c1, .int .i64 c2, .int .i64 c3, .int .i64 c4, .int .i64 c5, .int .i64 c6, .int .i64 c7][o]? := fun o => by
    rw [hb2.cell (by simp), World.cell?_alloc_new]
  have gfr : ∀ o, w2.frozen? ⟨w.heap.size + 1 + 1, o, none⟩ = false := fun o => by rw [hb2.frozen (by simp; omega), frozen?_alloc_cells, hfr]
  have hz2 : w1.heap.size + 1 ≤ w2.heap.size := by have := hb2.size; simpa using this
  have GB : Aside0 (Below w.heap.size w w2) := Aside0.mk ((HBE.out.alloc (by omega) _).trans (hb2.mono (by simp; omega)))
  have G2 := Aside0.mk (hG.below GB.out)
  have m0 := G2.out.c0
  have m1 := G2.out.c1
  have m2 := G2.out.c2
  have m3 := G2.out.c3
  clear gc hb2 hc hs hr hfr HBE hlt G2 hG
  have gz1 : w.heap.size + 1 < w2.heap.size := by omega
  go_wp2_with fail
  go_quiet ((first | (go_at_call 21; exact Calls.quiet_of_same (is_1 s0 _ h0 h0')) | (go_at_call 21; exact Calls.quiet_of_same (is_1 level _ h1 h1'))))
  go_wp2_with fail
  refine (give_any _ s1 (w.heap.size + 1) _ (by exact gs 1) (by exact gz1) s10 s11 r hr).mono ?_
  rintro e w3 ⟨rfl, hb3⟩
  have kr : ∀ o, w3.cell? ⟨w.heap.size + 1 + 1, o, none⟩ = #[Value.int .i64 0, .int .i64 0][o]? := fun o => (hb3.cell (by simp; omega)).trans (gr o)
  have kf : ∀ o, w3.frozen? ⟨w.heap.size + 1 + 1, o, none⟩ = false := fun o => (hb3.frozen (by simp; omega)).trans (gfr o)
  have KB : Aside0 (Below w.heap.size w w3) := Aside0.mk ((pw_below_drewN GB.out _).trans (hb3.mono (by simp; omega)))
  clear hb3 gs gr gl gfr GB m0 m1 m2 m3 hr
  go_wp2_with fail
  refine bodyPost_ret (v := .tuple #[.agg #[.int .i64 (s0 + c5), .int .i64 r], .int .i64 0]) (by simp [results, Tryd.results10, go_sem, kr]; try rfl) rfl ⟨rfl, ?_⟩
  exact below_r KB.out (by omega) (by omega) _ _

set_option maxHeartbeats 8000000 in
set_option maxRecDepth 100000 in
theorem next_full (c0 : ByteArray) (c1 c2 c3 c4 c5 c6 c7 s0 s1 want : Int) (w : World) (hv : ramp_Valid.f c0 c1 c2 c3 c4 c5 c6 c7 s0 s1 = some true) (hG : Hand.G w) (hw0 : 0 ≤ want) (hw1 : want ≤ 80) (level : Int) (hL : ramp_ladder_below.f c0 c1 c2 c3 c4 c5 c6 c7 want = some level) (s10 : 0 ≤ s1) (s11 : s1 ≤ 1000000) (s00 : 0 ≤ s0) (s01 : s0 ≤ 80) (l0 : 0 ≤ level) (l1 : level ≤ 80) (p0 : 0 ≤ c5) (p1 : c5 ≤ 80) (h0 : (s0 == 0) = false) (h0' : (s0 != 0) = true) (h1 : (level == 0) = false) (h1' : (level != 0) = true) (hm : level ≤ s0 + c5) (r : Int) (hr : Hid (r = Hand.sinceV s1)) :
    Calls Tryd.prog 10 #[.agg #[.string c0, .int .i64 c1, .int .i64 c2, .int .i64 c3, .int .i64 c4, .int .i64 c5, .int .i64 c6, .int .i64 c7], .agg #[.int .i64 s0, .int .i64 s1], .int .i64 want] w
      fun e w' => e = .returned (.tuple #[.agg #[.int .i64 level, .int .i64 r], .int .i64 0]) ∧ Below w.heap.size w w' := by
  have HL := Aside0.mk hL
  clear hL
  have HV := Aside0.mk hv
  clear hv
  go_enter Tryd.func10, Tryd.ntmps10
  go_wp2_with fail
  refine (ramp_Valid.calls _ _ _ _ _ _ _ _ _ _ true _ HV.out).mono ?_
  rintro e w1 ⟨rfl, hb1⟩
  have B1 := (Boxes.start c0 c1 c2 c3 c4 c5 c6 c7 s0 s1 w).below hb1
  clear hb1 HV
  obtain ⟨hc, hs, hr, hfr, hlt, hbe⟩ := B1
  have HBE := Aside0.mk hbe
  clear hbe
  have hl0 : w.heap.size < w1.heap.size := by omega
  have hl1 : w.heap.size + 1 < w1.heap.size := by omega
  go_wp2_with fail
  refine (ramp_ladder_below.calls _ _ _ _ _ _ _ _ _ level _ HL.out).mono ?_
  rintro e w2 ⟨rfl, hb2⟩
  have gc : ∀ b o, b < w1.heap.size → w2.cell? ⟨b, o, none⟩ = w1.cell? ⟨b, o, none⟩ := fun b o hb => by
    rw [hb2.cell (by simp; omega), World.cell?_alloc_past _ _ _ hb]
  have gs : ∀ o, w2.cell? ⟨w.heap.size + 1, o, none⟩ = #[Value.int .i64 s0, .int .i64 s1][o]? := fun o => by rw [gc _ _ hl1, hs]
  have gr : ∀ o, w2.cell? ⟨w.heap.size + 1 + 1, o, none⟩ = #[Value.int .i64 0, .int .i64 0][o]? := fun o => by rw [gc _ _ hlt, hr]
  have gl : ∀ o, w2.cell? ⟨w1.heap.size, o, none⟩ = #[Value.string c0, .int .i64 c1, .int .i64 c2, .int .i64 c3, .int .i64 c4, .int .i64 c5, .int .i64 c6, .int .i64 c7][o]? := fun o => by
    rw [hb2.cell (by simp), World.cell?_alloc_new]
  have gfr : ∀ o, w2.frozen? ⟨w.heap.size + 1 + 1, o, none⟩ = false := fun o => by rw [hb2.frozen (by simp; omega), frozen?_alloc_cells, hfr]
  have hz2 : w1.heap.size + 1 ≤ w2.heap.size := by have := hb2.size; simpa using this
  have GB : Aside0 (Below w.heap.size w w2) := Aside0.mk ((HBE.out.alloc (by omega) _).trans (hb2.mono (by simp; omega)))
  have G2 := Aside0.mk (hG.below GB.out)
  have m0 := G2.out.c0
  have m1 := G2.out.c1
  have m2 := G2.out.c2
  have m3 := G2.out.c3
  clear gc hb2 hc hs hr hfr HBE hlt G2 hG
  have gz1 : w.heap.size + 1 < w2.heap.size := by omega
  go_wp2_with fail
  go_quiet ((first | (go_at_call 21; exact Calls.quiet_of_same (is_1 s0 _ h0 h0')) | (go_at_call 21; exact Calls.quiet_of_same (is_1 level _ h1 h1'))))
  go_wp2_with fail
  refine (give_any _ s1 (w.heap.size + 1) _ (by exact gs 1) (by exact gz1) s10 s11 r hr).mono ?_
  rintro e w3 ⟨rfl, hb3⟩
  have kr : ∀ o, w3.cell? ⟨w.heap.size + 1 + 1, o, none⟩ = #[Value.int .i64 0, .int .i64 0][o]? := fun o => (hb3.cell (by simp; omega)).trans (gr o)
  have kf : ∀ o, w3.frozen? ⟨w.heap.size + 1 + 1, o, none⟩ = false := fun o => (hb3.frozen (by simp; omega)).trans (gfr o)
  have KB : Aside0 (Below w.heap.size w w3) := Aside0.mk ((pw_below_drewN GB.out _).trans (hb3.mono (by simp; omega)))
  clear hb3 gs gr gl gfr GB m0 m1 m2 m3 hr
  go_wp2_with fail
  refine bodyPost_ret (v := .tuple #[.agg #[.int .i64 level, .int .i64 r], .int .i64 0]) (by simp [results, Tryd.results10, go_sem, kr]; try rfl) rfl ⟨rfl, ?_⟩
  exact below_r KB.out (by omega) (by omega) _ _

theorem in_true {a b c : Int} (h : charger_in.f a b c = some true) : b ≤ a ∧ a ≤ c := by
  unfold charger_in.f at h
  by_cases h1 : a ≥ b
  · rw [if_pos h1] at h
    exact ⟨h1, of_decide_eq_true (Option.some.inj h)⟩
  · rw [if_neg h1] at h
    exact absurd (Option.some.inj h) (by simp)

theorem bind_ite {α : Type} {x : Option Bool} {y : Bool → Option α} {z : Option α} {r : α} (h : x.bind (fun t => if t = true then y t else z) = some r) : (x = some true ∧ y true = some r) ∨ (x = some false ∧ z = some r) := by
  cases x with
  | none => exact absurd h (by simp)
  | some b =>
    cases b with
    | true => exact Or.inl ⟨rfl, by simpa using h⟩
    | false => exact Or.inr ⟨rfl, by simpa using h⟩

theorem charger_facts {a0_0 : ByteArray} {a0_1 a0_2 a0_3 a0_4 a0_5 a0_6 a0_7 : Int} (h : charger_isCharger.f a0_0 a0_1 a0_2 a0_3 a0_4 a0_5 a0_6 a0_7 = some true) : 1 ≤ a0_3 ∧ a0_3 ≤ a0_4 ∧ a0_4 ≤ 80 ∧ 1 ≤ a0_5 ∧ a0_5 ≤ 80 := by
  unfold charger_isCharger.f at h
  rcases bind_ite h with ⟨_, h⟩ | ⟨_, h⟩
  · rcases bind_ite h with ⟨h1, h⟩ | ⟨_, h⟩
    · rcases bind_ite h with ⟨h2, h⟩ | ⟨_, h⟩
      · rcases bind_ite h with ⟨h3, h⟩ | ⟨_, h⟩
        · have := in_true h1; have := in_true h2; have := in_true h3; omega
        · exact absurd h (by simp)
      · exact absurd h (by simp)
    · exact absurd h (by simp)
  · exact absurd h (by simp)

theorem valid_charger {a0_0 : ByteArray} {a0_1 a0_2 a0_3 a0_4 a0_5 a0_6 a0_7 s0 s1 s2 : Int} {s3 : Bool} (h : charger_Valid.f a0_0 a0_1 a0_2 a0_3 a0_4 a0_5 a0_6 a0_7 s0 s1 s2 s3 = some true) : charger_isCharger.f a0_0 a0_1 a0_2 a0_3 a0_4 a0_5 a0_6 a0_7 = some true := by
  unfold charger_Valid.f at h
  rcases bind_ite h with ⟨h0, _⟩ | ⟨_, h⟩
  · exact h0
  · exact absurd h (by simp)

theorem ramp_facts {a0_0 : ByteArray} {a0_1 a0_2 a0_3 a0_4 a0_5 a0_6 a0_7 a1_0 a1_1 : Int} (h : ramp_Valid.f a0_0 a0_1 a0_2 a0_3 a0_4 a0_5 a0_6 a0_7 a1_0 a1_1 = some true) : 1 ≤ a0_3 ∧ a0_3 ≤ a0_4 ∧ a0_4 ≤ 80 ∧ 1 ≤ a0_5 ∧ a0_5 ≤ 80 ∧ 0 ≤ a1_0 ∧ a1_0 ≤ a0_4 ∧ 0 ≤ a1_1 ∧ a1_1 ≤ 1000000 := by
  unfold ramp_Valid.f charger_Start.f at h
  simp only [Option.bind_some] at h
  rcases bind_ite h with ⟨h1, h⟩ | ⟨_, h⟩
  · have hc := charger_facts (valid_charger h1)
    by_cases c1 : a1_0 < 0
    · rw [if_pos c1] at h; exact absurd h (by simp)
    rw [if_neg c1] at h
    by_cases c2 : a1_0 > a0_4
    · rw [if_pos c2] at h; exact absurd h (by simp)
    rw [if_neg c2] at h
    by_cases c3 : a1_1 < 0
    · rw [if_pos c3] at h; exact absurd h (by simp)
    rw [if_neg c3] at h
    by_cases c4 : a1_1 > 1000000
    · rw [if_pos c4] at h; exact absurd h (by simp)
    omega
  · exact absurd h (by simp)

theorem emod_le (x s : Int) (h : 0 ≤ x) (hs : 1 ≤ s) : x % s ≤ x := by
  have h1 := Int.emod_add_mul_ediv x s
  have h2 : 0 ≤ s * (x / s) := Int.mul_nonneg (by omega) (Int.ediv_nonneg h (by omega))
  omega

theorem level_in (least most step a : Int) (h1 : 1 ≤ least) (h2 : least ≤ most) (h3 : 1 ≤ step) : 0 ≤ Hand.levelV least most step a ∧ (0 ≤ a → Hand.levelV least most step a ≤ a) ∧ Hand.levelV least most step a ≤ most := by
  unfold Hand.levelV
  by_cases c1 : a < least
  · rw [if_pos c1]; omega
  · rw [if_neg c1]
    by_cases c2 : most < a
    · rw [if_pos c2]
      have := Int.emod_nonneg (most - least) (show step ≠ 0 by omega)
      have := emod_le (most - least) step (by omega) h3
      omega
    · rw [if_neg c2]
      have := Int.emod_nonneg (a - least) (show step ≠ 0 by omega)
      have := emod_le (a - least) step (by omega) h3
      omega

theorem below_val (a0_0 : ByteArray) (a0_1 a0_2 a0_3 a0_4 a0_5 a0_6 a0_7 a : Int) (h1 : 1 ≤ a0_3) (h2 : a0_3 ≤ a0_4) (h3 : a0_4 ≤ 80) (h4 : 1 ≤ a0_5) : ramp_ladder_below.f a0_0 a0_1 a0_2 a0_3 a0_4 a0_5 a0_6 a0_7 a = some (Hand.levelV a0_3 a0_4 a0_5 a) := by
  have wi : ∀ x : Int, 0 ≤ x → x ≤ 80 → wrap64 x = x := fun x _ _ => by unfold wrap64; omega
  unfold ramp_ladder_below.f Hand.levelV
  by_cases c1 : a < a0_3
  · rw [if_pos c1, if_pos c1]
  · rw [if_neg c1, if_neg c1, if_neg (by omega)]
    by_cases c2 : a0_4 < a
    · have e : mn a a0_4 = a0_4 := by unfold mn; omega
      have := Int.emod_nonneg (a0_4 - a0_3) (show a0_5 ≠ 0 by omega)
      have := emod_le (a0_4 - a0_3) a0_5 (by omega) h4
      rw [e, if_pos c2, wi (a0_4 - a0_3) (by omega) (by omega), Int.tmod_eq_emod_of_nonneg (by omega), wi _ (by omega) (by omega)]
    · have e : mn a a0_4 = a := by unfold mn; omega
      have := Int.emod_nonneg (a - a0_3) (show a0_5 ≠ 0 by omega)
      have := emod_le (a - a0_3) a0_5 (by omega) h4
      rw [e, if_neg c2, wi (a - a0_3) (by omega) (by omega), Int.tmod_eq_emod_of_nonneg (by omega), wi _ (by omega) (by omega)]

set_option maxRecDepth 100000 in
theorem ramp_Next.calls (a0_0 : ByteArray) (a0_1 : Int) (a0_2 : Int) (a0_3 : Int) (a0_4 : Int) (a0_5 : Int) (a0_6 : Int) (a0_7 : Int) (a1_0 : Int) (a1_1 : Int) (a2 : Int) (r1 : Int) (r2 : Int) (r3 : Int) (w : World) (hG : Hand.G w) (h : ramp_Next.f a0_0 a0_1 a0_2 a0_3 a0_4 a0_5 a0_6 a0_7 a1_0 a1_1 a2 = some (r1, r2, r3)) :
    Calls Tryd.prog 10 #[.agg #[.string a0_0, .int .i64 a0_1, .int .i64 a0_2, .int .i64 a0_3, .int .i64 a0_4, .int .i64 a0_5, .int .i64 a0_6, .int .i64 a0_7], .agg #[.int .i64 a1_0, .int .i64 a1_1], .int .i64 a2] w fun e w' => e = .returned (.tuple #[.agg #[.int .i64 r1, .int .i64 r2], .int .i64 r3]) ∧ Below w.heap.size w w' := by
  unfold ramp_Next.f at h
  rcases bind_ite h with ⟨hv, h⟩ | ⟨hv, h⟩
  · by_cases c1 : a2 < 0
    · rw [if_pos c1] at h
      simp only [Option.some.injEq, Prod.mk.injEq] at h
      obtain ⟨rfl, rfl, rfl⟩ := h
      exact next_low a0_0 a0_1 a0_2 a0_3 a0_4 a0_5 a0_6 a0_7 a1_0 a1_1 a2 w hv c1
    rw [if_neg c1] at h
    by_cases c2 : 80 < a2
    · rw [if_pos c2] at h
      simp only [Option.some.injEq, Prod.mk.injEq] at h
      obtain ⟨rfl, rfl, rfl⟩ := h
      exact next_high a0_0 a0_1 a0_2 a0_3 a0_4 a0_5 a0_6 a0_7 a1_0 a1_1 a2 w hv (by omega) c2
    rw [if_neg c2] at h
    obtain ⟨f1, f2, f3, f4, f5, f6, f7, f8, f9⟩ := ramp_facts hv
    have hL := below_val a0_0 a0_1 a0_2 a0_3 a0_4 a0_5 a0_6 a0_7 a2 f1 f2 f3 f4
    obtain ⟨l0, l1, l2⟩ := level_in a0_3 a0_4 a0_5 a2 f1 f2 f4
    rw [hL] at h
    generalize Hand.levelV a0_3 a0_4 a0_5 a2 = level at *
    simp only [Option.bind_some, Option.some.injEq, Prod.mk.injEq] at h
    obtain ⟨rfl, rfl, rfl⟩ := h
    unfold Hand.nextV
    by_cases d0 : a1_0 = 0
    · rw [if_pos d0]
      by_cases d1 : level = 0
      · rw [if_pos d1]
        exact next_off a0_0 a0_1 a0_2 a0_3 a0_4 a0_5 a0_6 a0_7 a1_0 a1_1 a2 w hv hG (by omega) (by omega) level hL f8 f9 f6 (by omega) l0 (by omega) (by omega) f5 d0 d1 _ rfl
      · rw [if_neg d1]
        by_cases d2 : a1_1 < 5
        · rw [if_pos d2]
          exact next_wait a0_0 a0_1 a0_2 a0_3 a0_4 a0_5 a0_6 a0_7 a1_0 a1_1 a2 w hv hG (by omega) (by omega) level hL f8 f9 f6 (by omega) l0 (by omega) (by omega) f5 d0 (beq_eq_false_iff_ne.2 d1) (bne_iff_ne.2 d1) d2 _ rfl
        · rw [if_neg d2]
          exact next_on a0_0 a0_1 a0_2 a0_3 a0_4 a0_5 a0_6 a0_7 a1_0 a1_1 a2 w hv hG (by omega) (by omega) level hL f8 f9 f6 (by omega) l0 (by omega) (by omega) f5 d0 (beq_eq_false_iff_ne.2 d1) (bne_iff_ne.2 d1) (by omega)
    · rw [if_neg d0]
      by_cases d1 : level = 0
      · rw [if_pos d1]
        exact next_out a0_0 a0_1 a0_2 a0_3 a0_4 a0_5 a0_6 a0_7 a1_0 a1_1 a2 w hv hG (by omega) (by omega) level hL f8 f9 f6 (by omega) l0 (by omega) (by omega) f5 (beq_eq_false_iff_ne.2 d0) (bne_iff_ne.2 d0) d1
      · rw [if_neg d1]
        by_cases d2 : a1_0 + a0_5 < level
        · rw [if_pos d2]
          exact next_less a0_0 a0_1 a0_2 a0_3 a0_4 a0_5 a0_6 a0_7 a1_0 a1_1 a2 w hv hG (by omega) (by omega) level hL f8 f9 f6 (by omega) l0 (by omega) (by omega) f5 (beq_eq_false_iff_ne.2 d0) (bne_iff_ne.2 d0) (beq_eq_false_iff_ne.2 d1) (bne_iff_ne.2 d1) d2 _ rfl
        · rw [if_neg d2]
          exact next_full a0_0 a0_1 a0_2 a0_3 a0_4 a0_5 a0_6 a0_7 a1_0 a1_1 a2 w hv hG (by omega) (by omega) level hL f8 f9 f6 (by omega) l0 (by omega) (by omega) f5 (beq_eq_false_iff_ne.2 d0) (bne_iff_ne.2 d0) (beq_eq_false_iff_ne.2 d1) (bne_iff_ne.2 d1) (by omega) _ rfl
  · simp only [Option.some.injEq, Prod.mk.injEq] at h
    obtain ⟨rfl, rfl, rfl⟩ := h
    exact next_invalid a0_0 a0_1 a0_2 a0_3 a0_4 a0_5 a0_6 a0_7 a1_0 a1_1 a2 w hv

/-! ### chargeparklaw24_example: function 16 -/
def chargeparklaw24_example.f  : Option (ByteArray × Int × Int × Int × Int × Int × Int × Int) := some ((⟨#[]⟩ : ByteArray), 0, 7, 6, 16, 4, 0, 0)
set_option maxHeartbeats 8000000 in
set_option maxRecDepth 100000 in
theorem chargeparklaw24_example.calls  (r1 : ByteArray) (r2 : Int) (r3 : Int) (r4 : Int) (r5 : Int) (r6 : Int) (r7 : Int) (r8 : Int) (w : World) (h : chargeparklaw24_example.f  = some (r1, r2, r3, r4, r5, r6, r7, r8)) :
    Calls Tryd.prog 16 #[] w fun e w' => e = .returned (.agg #[.string r1, .int .i64 r2, .int .i64 r3, .int .i64 r4, .int .i64 r5, .int .i64 r6, .int .i64 r7, .int .i64 r8]) ∧ Below w.heap.size w w' := by
  have hu23 := Tryd.underlying23
  have HB := Aside0.mk (Below.refl w.heap.size w)
  have H : (some ((⟨#[]⟩ : ByteArray), 0, 7, 6, 16, 4, 0, 0)) = some (r1, r2, r3, r4, r5, r6, r7, r8) := h
  clear h
  simp only [Option.some.injEq, Prod.mk.injEq] at H
  obtain ⟨rfl, rfl, rfl, rfl, rfl, rfl, rfl, rfl⟩ := H
  go_enter Tryd.func16, Tryd.ntmps16
  go_wp2_with (first | ((with_reducible refine gate_dst (N := 0) rfl ?_); refine box_event ?hg (N := 0) ?hd (cs := #[.string (⟨#[]⟩ : ByteArray), .int .i64 0, .int .i64 0, .int .i64 0, .int .i64 0, .int .i64 0, .int .i64 0, .int .i64 0]) (t := 23) ?hr ?_; (case hd => rfl); (case hg => rfl); (case hr => first | (go_simp; done) | (go_simp; rfl)); intro gb123 hg w1 hbox hb; have n0_ := Aside0.mk (below_step (by repeat (first | (with_reducible first | exact HB.out | apply below_alloc | apply pw_below_drewN | apply below_drew1) | exact HB.out)) hb); have n1_ := Aside0.mk (hbox); have n2_ := Aside0.mk ((by rw [hg]; exact (below_size (by repeat (first | (with_reducible first | exact HB.out | apply below_alloc | apply pw_below_drewN | apply below_drew1) | exact HB.out))) : w.heap.size ≤ gb123)); have n3_ := Aside0.mk ((by rw [hg]; exact (below_size (by repeat (first | (with_reducible first | exact HB.out | apply below_alloc | apply pw_below_drewN | apply below_drew1) | exact HB.out))) : w.heap.size ≤ gb123)); clear HB; have HB := n0_; have BK123 := n1_; have GW123 := n2_; have GE123 := n3_; clear n0_ n1_ n2_ n3_; clear hb hbox hg; have hcz2_0 : w1.cell? ⟨gb123, 0, none⟩ = some (.string (⟨#[]⟩ : ByteArray)) := (blk_cell BK123.out 0).trans rfl; have hcz2_1 : w1.cell? ⟨gb123, 1, none⟩ = some (.int .i64 0) := (blk_cell BK123.out 1).trans rfl; have hcz2_2 : w1.cell? ⟨gb123, 2, none⟩ = some (.int .i64 0) := (blk_cell BK123.out 2).trans rfl; have hcz2_3 : w1.cell? ⟨gb123, 3, none⟩ = some (.int .i64 0) := (blk_cell BK123.out 3).trans rfl; have hcz2_4 : w1.cell? ⟨gb123, 4, none⟩ = some (.int .i64 0) := (blk_cell BK123.out 4).trans rfl; have hcz2_5 : w1.cell? ⟨gb123, 5, none⟩ = some (.int .i64 0) := (blk_cell BK123.out 5).trans rfl; have hcz2_6 : w1.cell? ⟨gb123, 6, none⟩ = some (.int .i64 0) := (blk_cell BK123.out 6).trans rfl; have hcz2_7 : w1.cell? ⟨gb123, 7, none⟩ = some (.int .i64 0) := (blk_cell BK123.out 7).trans rfl; have hfz2_0 := blk_frozen BK123.out 0; have hfz2_1 := blk_frozen BK123.out 1; have hfz2_2 := blk_frozen BK123.out 2; have hfz2_3 := blk_frozen BK123.out 3; have hfz2_4 := blk_frozen BK123.out 4; have hfz2_5 := blk_frozen BK123.out 5; have hfz2_6 := blk_frozen BK123.out 6; have hfz2_7 := blk_frozen BK123.out 7))
  refine bodyPost_ret (results_cell_row rfl _ _ gb123 23 #[.string (⟨#[]⟩ : ByteArray), .int .i64 0, .int .i64 7, .int .i64 6, .int .i64 16, .int .i64 4, .int .i64 0, .int .i64 0] (0, 0) _ rfl (by (with_reducible repeat (first | refine blk_drewN ?_ _ | refine blk_drew ?_ | refine blk_alloc ?_ _)); refine blk_put (cs := #[.string (⟨#[]⟩ : ByteArray), .int .i64 0, .int .i64 7, .int .i64 6, .int .i64 16, .int .i64 4, .int .i64 0, .int .i64 0]) ?_ 7 _ rfl; (with_reducible repeat (first | refine blk_drewN ?_ _ | refine blk_drew ?_ | refine blk_alloc ?_ _)); refine blk_put (cs := #[.string (⟨#[]⟩ : ByteArray), .int .i64 0, .int .i64 7, .int .i64 6, .int .i64 16, .int .i64 4, .int .i64 0, .int .i64 0]) ?_ 6 _ rfl; (with_reducible repeat (first | refine blk_drewN ?_ _ | refine blk_drew ?_ | refine blk_alloc ?_ _)); refine blk_put (cs := #[.string (⟨#[]⟩ : ByteArray), .int .i64 0, .int .i64 7, .int .i64 6, .int .i64 16, .int .i64 0, .int .i64 0, .int .i64 0]) ?_ 5 _ rfl; (with_reducible repeat (first | refine blk_drewN ?_ _ | refine blk_drew ?_ | refine blk_alloc ?_ _)); refine blk_put (cs := #[.string (⟨#[]⟩ : ByteArray), .int .i64 0, .int .i64 7, .int .i64 6, .int .i64 0, .int .i64 0, .int .i64 0, .int .i64 0]) ?_ 4 _ rfl; (with_reducible repeat (first | refine blk_drewN ?_ _ | refine blk_drew ?_ | refine blk_alloc ?_ _)); refine blk_put (cs := #[.string (⟨#[]⟩ : ByteArray), .int .i64 0, .int .i64 7, .int .i64 0, .int .i64 0, .int .i64 0, .int .i64 0, .int .i64 0]) ?_ 3 _ rfl; (with_reducible repeat (first | refine blk_drewN ?_ _ | refine blk_drew ?_ | refine blk_alloc ?_ _)); refine blk_put (cs := #[.string (⟨#[]⟩ : ByteArray), .int .i64 0, .int .i64 0, .int .i64 0, .int .i64 0, .int .i64 0, .int .i64 0, .int .i64 0]) ?_ 2 _ rfl; (with_reducible repeat (first | refine blk_drewN ?_ _ | refine blk_drew ?_ | refine blk_alloc ?_ _)); refine blk_put (cs := #[.string (⟨#[]⟩ : ByteArray), .int .i64 0, .int .i64 0, .int .i64 0, .int .i64 0, .int .i64 0, .int .i64 0, .int .i64 0]) ?_ 1 _ rfl; (with_reducible repeat (first | refine blk_drewN ?_ _ | refine blk_drew ?_ | refine blk_alloc ?_ _)); refine blk_put (cs := #[.string (⟨#[]⟩ : ByteArray), .int .i64 0, .int .i64 0, .int .i64 0, .int .i64 0, .int .i64 0, .int .i64 0, .int .i64 0]) ?_ 0 _ rfl; (with_reducible repeat (first | refine blk_drewN ?_ _ | refine blk_drew ?_ | refine blk_alloc ?_ _)); exact BK123.out) Tryd.underlying23 rfl (by kernel_rfl)) rfl ?_
  exact ⟨by first | rfl | (simp [errW_none, errW_some] <;> rfl) | (simp [*, errW_none, errW_some] <;> rfl), by repeat (first | (with_reducible first | exact HB.out | apply below_alloc | apply pw_below_drewN | apply below_drew1 | refine below_set ?_ GE123.out) | exact HB.out)⟩

end Go.Proofs.YtagphncpdhaklaaDoor.PAll
