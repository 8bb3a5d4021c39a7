/- What the Go functions of this seat's laws return, told as Lean functions and proved by their walks; laid by a program of this session out of Lean's own print of the translation. No conditions of its own. -/
import Derived.Test.YtnfanhnflcjphaaDoorPAllx0
import Derived.Test.YtnfanhnflcjphaaDoorPAllx2
namespace Go.Proofs.YtnfanhnflcjphaaDoor.PAll
open Go.RowKit Go.Proofs.YtnfanhnflcjphaaDoorW.PrintWords Go.Proofs.YtnfanhnflcjphaaDoorW.PrintLast Go.Proofs.YtnfanhnflcjphaaDoorW.PrintMore
attribute [local go_sem] max2_int min2_int max_two min_two max_three min_three max_four min_four   -- for this text's walks alone
set_option linter.unusedVariables false
set_option linter.unusedSimpArgs false

/-! ### charger_Step: function 11 -/
theorem bcell {W w1 : World} (hb : Below W.heap.size W w1) : (∀ b o, b < W.heap.size → w1.cell? ⟨b, o, none⟩ = W.cell? ⟨b, o, none⟩) ∧ (∀ b o, b < W.heap.size → w1.frozen? ⟨b, o, none⟩ = W.frozen? ⟨b, o, none⟩) :=
  ⟨fun b o h => hb.cell (p := ⟨b, o, none⟩) h, fun b o h => hb.frozen (p := ⟨b, o, none⟩) h⟩

/-- The four blocks that charger.Step lays at its head: the charger, the state, the event, the result. -/
structure Boxes (c0 : ByteArray) (c1 c2 c3 c4 c5 c6 c7 s0 s1 s2 : Int) (s3 : Bool) (e0 e1 e2 : Int) (r0 r1 r2 : Int) (r3 : Bool) (w w' : World) : Prop where
  c : ∀ o, w'.cell? ⟨w.heap.size, o, none⟩ = #[Value.string c0, .int .i64 c1, .int .i64 c2, .int .i64 c3, .int .i64 c4, .int .i64 c5, .int .i64 c6, .int .i64 c7][o]?
  s : ∀ o, w'.cell? ⟨w.heap.size + 1, o, none⟩ = #[Value.int .i64 s0, .int .i64 s1, .int .i64 s2, .bool s3][o]?
  e : ∀ o, w'.cell? ⟨w.heap.size + 1 + 1, o, none⟩ = #[Value.int .i64 e0, .int .i64 e1, .int .i64 e2][o]?
  r : ∀ o, w'.cell? ⟨w.heap.size + 1 + 1 + 1, o, none⟩ = #[Value.int .i64 r0, .int .i64 r1, .int .i64 r2, .bool r3][o]?
  fs : ∀ o, w'.frozen? ⟨w.heap.size + 1, o, none⟩ = false
  fr : ∀ o, w'.frozen? ⟨w.heap.size + 1 + 1 + 1, o, none⟩ = false
  lt : w.heap.size + 1 + 1 + 1 < w'.heap.size
  b : Below w.heap.size w w'

theorem Boxes.start (c0 : ByteArray) (c1 c2 c3 c4 c5 c6 c7 s0 s1 s2 : Int) (s3 : Bool) (e0 e1 e2 : Int) (w : World) : Boxes c0 c1 c2 c3 c4 c5 c6 c7 s0 s1 s2 s3 e0 e1 e2 0 0 0 false w ((((w.alloc (.cells #[.string c0, .int .i64 c1, .int .i64 c2, .int .i64 c3, .int .i64 c4, .int .i64 c5, .int .i64 c6, .int .i64 c7] 23)).alloc (.cells #[.int .i64 s0, .int .i64 s1, .int .i64 s2, .bool s3] 25)).alloc (.cells #[.int .i64 e0, .int .i64 e1, .int .i64 e2] 27)).alloc (.cells #[.int .i64 0, .int .i64 0, .int .i64 0, .bool false] 25)) where
  c o := by rw [World.cell?_alloc_past _ _ _ (by simp; omega), World.cell?_alloc_past _ _ _ (by simp; omega), World.cell?_alloc_past _ _ _ (by simp), World.cell?_alloc_new]
  s o := by
    rw [World.cell?_alloc_past _ _ _ (by simp), World.cell?_alloc_past _ _ _ (by simp)]
    exact World.cell?_alloc_at _ _ _ _ (by simp)
  e o := by
    rw [World.cell?_alloc_past _ _ _ (by simp)]
    exact World.cell?_alloc_at _ _ _ _ (by simp)
  r o := World.cell?_alloc_at _ _ _ _ (by simp)
  fs o := by
    rw [frozen?_alloc_cells, frozen?_alloc_cells]
    have := World.frozen?_alloc_new (w.alloc (.cells #[.string c0, .int .i64 c1, .int .i64 c2, .int .i64 c3, .int .i64 c4, .int .i64 c5, .int .i64 c6, .int .i64 c7] 23)) #[.int .i64 s0, .int .i64 s1, .int .i64 s2, .bool s3] 25 o
    simpa only [World.size_alloc] using this
  fr o := by
    have := World.frozen?_alloc_new (((w.alloc (.cells #[.string c0, .int .i64 c1, .int .i64 c2, .int .i64 c3, .int .i64 c4, .int .i64 c5, .int .i64 c6, .int .i64 c7] 23)).alloc (.cells #[.int .i64 s0, .int .i64 s1, .int .i64 s2, .bool s3] 25)).alloc (.cells #[.int .i64 e0, .int .i64 e1, .int .i64 e2] 27)) #[.int .i64 0, .int .i64 0, .int .i64 0, .bool false] 25 o
    simpa only [World.size_alloc] using this
  lt := by simp
  b := ((((Below.refl _ _).alloc (Nat.le_refl _) _).alloc (by simp) _).alloc (by simp; omega) _).alloc (by simp; omega) _

theorem Boxes.below {c0 : ByteArray} {c1 c2 c3 c4 c5 c6 c7 s0 s1 s2 : Int} {s3 : Bool} {e0 e1 e2 : Int} {r0 r1 r2 : Int} {r3 : Bool} {w w1 w2 : World} (h : Boxes c0 c1 c2 c3 c4 c5 c6 c7 s0 s1 s2 s3 e0 e1 e2 r0 r1 r2 r3 w w1) (hb : Below w1.heap.size w1 w2) : Boxes c0 c1 c2 c3 c4 c5 c6 c7 s0 s1 s2 s3 e0 e1 e2 r0 r1 r2 r3 w w2 where
  c o := (hb.cell (by have := h.lt; simp; omega)).trans (h.c o)
  s o := (hb.cell (by have := h.lt; simp; omega)).trans (h.s o)
  e o := (hb.cell (by have := h.lt; simp; omega)).trans (h.e o)
  r o := (hb.cell (by have := h.lt; simp; omega)).trans (h.r o)
  fs o := (hb.frozen (by have := h.lt; simp; omega)).trans (h.fs o)
  fr o := (hb.frozen (by have := h.lt; simp; omega)).trans (h.fr o)
  lt := Nat.lt_of_lt_of_le h.lt hb.size
  b := h.b.trans (hb.mono (by have := h.lt; omega))

theorem below_r {w w1 : World} (h : Below w.heap.size w w1) {k0 k1 k2 k3 : Nat} (l0 : w.heap.size ≤ k0) (l1 : w.heap.size ≤ k1) (l2 : w.heap.size ≤ k2) (l3 : w.heap.size ≤ k3) (v0 v1 v2 v3 : Value) :
    Below w.heap.size w ((((w1.setCell ⟨k0, 0, none⟩ v0).setCell ⟨k1, 1, none⟩ v1).setCell ⟨k2, 2, none⟩ v2).setCell ⟨k3, 3, none⟩ v3) :=
  (((h.setCell l0 _).setCell l1 _).setCell l2 _).setCell l3 _

theorem box_set (w : World) (b k : Nat) (C : Array Value) (v : Value) (hs : ∀ o, w.cell? ⟨b, o, none⟩ = C[o]?) (hk : k < C.size) : ∀ o, (w.setCell ⟨b, k, none⟩ v).cell? ⟨b, o, none⟩ = (C.set k v hk)[o]? := fun o => by
  rw [Array.getElem?_set]
  by_cases h : k = o
  · subst h
    rw [if_pos rfl, World.cell?_setCell_same (u := C[k]) _ _ _ (by rw [hs]; exact Array.getElem?_eq_getElem hk)]
  · rw [if_neg h, World.cell?_setCell_other _ _ _ _ (by simp [h]), hs]

/-- The closure in charger.Step: it writes the lease of the state in block b; nothing else turns. -/
theorem lease_any (a l : Int) (b : Nat) (w : World) (p0 p1 p2 p3 : Value) (hs : ∀ o, w.cell? ⟨b, o, none⟩ = #[p0, p1, p2, p3][o]?) (hf : ∀ o, w.frozen? ⟨b, o, none⟩ = false) :
    Calls Tryd.prog 23 #[.int .i64 a, .int .i64 l, .pointer (some ⟨b, 0, none⟩)] w fun e w' => e = .returned (.tuple #[]) ∧ (∀ o, w'.cell? ⟨b, o, none⟩ = #[p0, .int .i64 a, .int .i64 l, p3][o]?) ∧ (∀ x o, x ≠ b → w'.cell? ⟨x, o, none⟩ = w.cell? ⟨x, o, none⟩) ∧ (∀ x, w'.frozen? x = w.frozen? x) ∧ w'.heap.size = w.heap.size ∧ Below b w w' := by
  go_enter Tryd.func23, Tryd.ntmps23
  go_wp2
  go_returns
  refine ⟨rfl, fun o => ?_, fun x o hx => ?_, fun x => ?_, ?_, ?_⟩
  · exact box_set _ b 2 _ _ (box_set _ b 1 _ _ hs (by simp)) (by simp) o
  · rw [World.cell?_setCell_other _ _ _ _ (by intro h; cases h; exact hx rfl), World.cell?_setCell_other _ _ _ _ (by intro h; cases h; exact hx rfl)]
  · rw [World.frozen?_setCell, World.frozen?_setCell]
  · simp [World.setCell]
  · exact (((Below.refl b w).setCell (p := ⟨b, 1, none⟩) (Nat.le_refl _) _).setCell (p := ⟨b, 2, none⟩) (Nat.le_refl _) _)

def charger_Step.f (a0_0 : ByteArray) (a0_1 : Int) (a0_2 : Int) (a0_3 : Int) (a0_4 : Int) (a0_5 : Int) (a0_6 : Int) (a0_7 : Int) (a1_0 : Int) (a1_1 : Int) (a1_2 : Int) (a1_3 : Bool) (a2_0 : Int) (a2_1 : Int) (a2_2 : Int) : Option (Int × Int × Int × Bool × Int) :=
  (charger_Valid.f a0_0 a0_1 a0_2 a0_3 a0_4 a0_5 a0_6 a0_7 a1_0 a1_1 a1_2 a1_3).bind fun v => if v = true then ((charger_in.f a2_0 1 9).bind fun i => if i = true then ((charger_fits.f a0_0 a0_1 a0_2 a0_3 a0_4 a0_5 a0_6 a0_7 a2_0 a2_1 a2_2).bind fun t => if t = true then some (Hand.stepV a1_0 a1_1 a1_2 a1_3 a2_0 a2_1 a2_2) else some (0, 0, 0, false, 1)) else some (0, 0, 0, false, 9)) else some (0, 0, 0, false, 1)

set_option maxHeartbeats 8000000 in
set_option maxRecDepth 100000 in
theorem step_invalid (c0 : ByteArray) (c1 c2 c3 c4 c5 c6 c7 s0 s1 s2 : Int) (s3 : Bool) (e0 e1 e2 : Int) (w : World) (hv : charger_Valid.f c0 c1 c2 c3 c4 c5 c6 c7 s0 s1 s2 s3 = some false) :
    Calls Tryd.prog 11 #[.agg #[.string c0, .int .i64 c1, .int .i64 c2, .int .i64 c3, .int .i64 c4, .int .i64 c5, .int .i64 c6, .int .i64 c7], .agg #[.int .i64 s0, .int .i64 s1, .int .i64 s2, .bool s3], .agg #[.int .i64 e0, .int .i64 e1, .int .i64 e2]] w
      fun e w' => e = .returned (.tuple #[.agg #[.int .i64 0, .int .i64 0, .int .i64 0, .bool false], .int .i64 1]) ∧ Below w.heap.size w w' := by
  have HV := Aside0.mk hv
  clear hv
  go_enter Tryd.func11, Tryd.ntmps11
  go_wp2_with fail
  refine (charger_Valid.calls _ _ _ _ _ _ _ _ _ _ _ _ false _ HV.out).mono ?_
  rintro e w1 ⟨rfl, hb1⟩
  have B1 := (Boxes.start c0 c1 c2 c3 c4 c5 c6 c7 s0 s1 s2 s3 e0 e1 e2 w).below hb1
  clear hb1 HV
  obtain ⟨hc, hs, he, hr, hfs, hfr, hlt, hbe⟩ := B1
  have HBE := Aside0.mk hbe
  clear hbe
  go_wp2_with fail
  refine bodyPost_ret (v := .tuple #[.agg #[.int .i64 0, .int .i64 0, .int .i64 0, .bool false], .int .i64 1]) (by simp [results, Tryd.results11, go_sem, hr]; try rfl) rfl ⟨rfl, ?_⟩
  exact below_r HBE.out (by omega) (by omega) (by omega) (by omega) _ _ _ _

set_option maxHeartbeats 8000000 in
set_option maxRecDepth 100000 in
theorem step_kind (c0 : ByteArray) (c1 c2 c3 c4 c5 c6 c7 s0 s1 s2 : Int) (s3 : Bool) (e0 e1 e2 : Int) (w : World) (hv : charger_Valid.f c0 c1 c2 c3 c4 c5 c6 c7 s0 s1 s2 s3 = some true) (hi : charger_in.f e0 1 9 = some false) :
    Calls Tryd.prog 11 #[.agg #[.string c0, .int .i64 c1, .int .i64 c2, .int .i64 c3, .int .i64 c4, .int .i64 c5, .int .i64 c6, .int .i64 c7], .agg #[.int .i64 s0, .int .i64 s1, .int .i64 s2, .bool s3], .agg #[.int .i64 e0, .int .i64 e1, .int .i64 e2]] w
      fun e w' => e = .returned (.tuple #[.agg #[.int .i64 0, .int .i64 0, .int .i64 0, .bool false], .int .i64 9]) ∧ Below w.heap.size w w' := by
  have HI := Aside0.mk hi
  clear hi
  have HV := Aside0.mk hv
  clear hv
  go_enter Tryd.func11, Tryd.ntmps11
  go_wp2_with fail
  refine (charger_Valid.calls _ _ _ _ _ _ _ _ _ _ _ _ true _ HV.out).mono ?_
  rintro e w1 ⟨rfl, hb1⟩
  have B1 := (Boxes.start c0 c1 c2 c3 c4 c5 c6 c7 s0 s1 s2 s3 e0 e1 e2 w).below hb1
  clear hb1 HV
  obtain ⟨hc, hs, he, hr, hfs, hfr, hlt, hbe⟩ := id B1
  have HB1 := Aside0.mk B1
  clear B1 hbe
  go_wp2_with fail
  refine (charger_in.calls _ _ _ false _ HI.out).mono ?_
  rintro e w' ⟨rfl, ⟨nd, rfl⟩⟩
  go_wp2_with fail
  have HBE := Aside0.mk HB1.out.b
  refine bodyPost_ret (v := .tuple #[.agg #[.int .i64 0, .int .i64 0, .int .i64 0, .bool false], .int .i64 9]) (by simp [results, Tryd.results11, go_sem, hr]; try rfl) rfl ⟨rfl, ?_⟩
  exact below_r (pw_below_drewN HBE.out _) (by omega) (by omega) (by omega) (by omega) _ _ _ _

set_option maxHeartbeats 8000000 in
set_option maxRecDepth 100000 in
theorem step_fits (c0 : ByteArray) (c1 c2 c3 c4 c5 c6 c7 s0 s1 s2 : Int) (s3 : Bool) (e0 e1 e2 : Int) (w : World) (hv : charger_Valid.f c0 c1 c2 c3 c4 c5 c6 c7 s0 s1 s2 s3 = some true) (hi : charger_in.f e0 1 9 = some true) (hf : charger_fits.f c0 c1 c2 c3 c4 c5 c6 c7 e0 e1 e2 = some false) :
    Calls Tryd.prog 11 #[.agg #[.string c0, .int .i64 c1, .int .i64 c2, .int .i64 c3, .int .i64 c4, .int .i64 c5, .int .i64 c6, .int .i64 c7], .agg #[.int .i64 s0, .int .i64 s1, .int .i64 s2, .bool s3], .agg #[.int .i64 e0, .int .i64 e1, .int .i64 e2]] w
      fun e w' => e = .returned (.tuple #[.agg #[.int .i64 0, .int .i64 0, .int .i64 0, .bool false], .int .i64 1]) ∧ Below w.heap.size w w' := by
  have HI := Aside0.mk hi
  have HF := Aside0.mk hf
  clear hi hf
  have HV := Aside0.mk hv
  clear hv
  go_enter Tryd.func11, Tryd.ntmps11
  go_wp2_with fail
  refine (charger_Valid.calls _ _ _ _ _ _ _ _ _ _ _ _ true _ HV.out).mono ?_
  rintro e w1 ⟨rfl, hb1⟩
  have B1 := (Boxes.start c0 c1 c2 c3 c4 c5 c6 c7 s0 s1 s2 s3 e0 e1 e2 w).below hb1
  clear hb1 HV
  obtain ⟨hc, hs, he, hr, hfs, hfr, hlt, hbe⟩ := id B1
  have HB1 := Aside0.mk B1
  clear B1 hbe
  go_wp2_with fail
  refine (charger_in.calls _ _ _ true _ HI.out).mono ?_
  rintro e w' ⟨rfl, ⟨nd, rfl⟩⟩
  have B2 := HB1.out.below (pw_below_drewN (Below.refl _ _) nd)
  clear HB1 HI hc hs he hr hfs hfr hlt
  obtain ⟨hc, hs, he, hr, hfs, hfr, hlt, hbe⟩ := id B2
  have HB2 := Aside0.mk B2
  clear B2 hbe
  go_wp2_with fail
  refine (charger_fits.calls _ _ _ _ _ _ _ _ _ _ _ false _ HF.out).mono ?_
  rintro e w2 ⟨rfl, hb2⟩
  have B3 := HB2.out.below hb2
  have HB12 := Aside0.mk hb2
  clear hb2 HF hc hs he hr hfs hfr hlt
  obtain ⟨hc, hs, he, hr, hfs, hfr, hlt, hbe⟩ := B3
  have HBE := Aside0.mk hbe
  clear hbe
  go_wp2_with fail
  refine bodyPost_ret (v := .tuple #[.agg #[.int .i64 0, .int .i64 0, .int .i64 0, .bool false], .int .i64 1]) (by simp [results, Tryd.results11, go_sem, hr]; try rfl) rfl ⟨rfl, ?_⟩
  exact below_r HBE.out (by omega) (by omega) (by omega) (by omega) _ _ _ _

set_option maxHeartbeats 8000000 in
set_option maxRecDepth 100000 in
theorem step_state (c0 : ByteArray) (c1 c2 c3 c4 c5 c6 c7 s0 s1 s2 : Int) (s3 : Bool) (e0 e1 e2 : Int) (w : World) (hG : Hand.G w) (hv : charger_Valid.f c0 c1 c2 c3 c4 c5 c6 c7 s0 s1 s2 s3 = some true) (hi : charger_in.f e0 1 9 = some true) (hf : charger_fits.f c0 c1 c2 c3 c4 c5 c6 c7 e0 e1 e2 = some true)
    (k1 : 1 ≤ e0) (k9 : e0 ≤ 9) (p0 : 0 ≤ s0) (p5 : s0 ≤ 5) (T : Int) (hT : Hid (T = Hand.stepT e0 s0)) (h1 : (T == -1) = true) :
    Calls Tryd.prog 11 #[.agg #[.string c0, .int .i64 c1, .int .i64 c2, .int .i64 c3, .int .i64 c4, .int .i64 c5, .int .i64 c6, .int .i64 c7], .agg #[.int .i64 s0, .int .i64 s1, .int .i64 s2, .bool s3], .agg #[.int .i64 e0, .int .i64 e1, .int .i64 e2]] w
      fun e w' => e = .returned (.tuple #[.agg #[.int .i64 0, .int .i64 0, .int .i64 0, .bool false], .int .i64 6]) ∧ Below w.heap.size w w' := by
  have HI := Aside0.mk hi
  have HF := Aside0.mk hf
  clear hi hf
  have HV := Aside0.mk hv
  clear hv
  go_enter Tryd.func11, Tryd.ntmps11
  go_wp2_with fail
  refine (charger_Valid.calls _ _ _ _ _ _ _ _ _ _ _ _ true _ HV.out).mono ?_
  rintro e w1 ⟨rfl, hb1⟩
  have B1 := (Boxes.start c0 c1 c2 c3 c4 c5 c6 c7 s0 s1 s2 s3 e0 e1 e2 w).below hb1
  clear hb1 HV
  obtain ⟨hc, hs, he, hr, hfs, hfr, hlt, hbe⟩ := id B1
  have HB1 := Aside0.mk B1
  clear B1 hbe
  go_wp2_with fail
  refine (charger_in.calls _ _ _ true _ HI.out).mono ?_
  rintro e w' ⟨rfl, ⟨nd, rfl⟩⟩
  have B2 := HB1.out.below (pw_below_drewN (Below.refl _ _) nd)
  clear HB1 HI hc hs he hr hfs hfr hlt
  obtain ⟨hc, hs, he, hr, hfs, hfr, hlt, hbe⟩ := id B2
  have HB2 := Aside0.mk B2
  clear B2 hbe
  go_wp2_with fail
  refine (charger_fits.calls _ _ _ _ _ _ _ _ _ _ _ true _ HF.out).mono ?_
  rintro e w2 ⟨rfl, hb2⟩
  have B3 := HB2.out.below hb2
  have HB12 := Aside0.mk hb2
  clear hb2 HF hc hs he hr hfs hfr hlt
  obtain ⟨hc, hs, he, hr, hfs, hfr, hlt, hbe⟩ := B3
  have HBE := Aside0.mk hbe
  clear hbe
  have hg : w2.cell? ⟨0, e0.toNat * 6 + s0.toNat, none⟩ = some (.int .i64 T) := by
    have h := (hG.below HBE.out).cells e0.toNat s0.toNat (by omega) (by omega) (by omega)
    rw [Int.toNat_of_nonneg (by omega), Int.toNat_of_nonneg p0] at h
    rw [hT.out]; exact h
  clear HB2 HB12
  have hl1 : w.heap.size + 1 < w2.heap.size := by omega
  have hl2 : w.heap.size + 1 + 1 < w2.heap.size := by omega
  go_wp2_with fail
  go_quiet (fail)
  clear hg hc hT hG
  go_wp2_with fail
  refine bodyPost_ret (v := .tuple #[.agg #[.int .i64 0, .int .i64 0, .int .i64 0, .bool false], .int .i64 6]) (by simp [results, Tryd.results11, go_sem, hr]; try rfl) rfl ⟨rfl, ?_⟩
  exact below_r (pw_below_drewN HBE.out _) (by omega) (by omega) (by omega) (by omega) _ _ _ _

set_option maxHeartbeats 8000000 in
set_option maxRecDepth 100000 in
theorem step_7 (c0 : ByteArray) (c1 c2 c3 c4 c5 c6 c7 s0 s1 s2 : Int) (s3 : Bool) (e0 e1 e2 : Int) (w : World) (hG : Hand.G w) (hv : charger_Valid.f c0 c1 c2 c3 c4 c5 c6 c7 s0 s1 s2 s3 = some true) (hi : charger_in.f e0 1 9 = some true) (hf : charger_fits.f c0 c1 c2 c3 c4 c5 c6 c7 e0 e1 e2 = some true)
    (k1 : 1 ≤ e0) (k9 : e0 ≤ 9) (p0 : 0 ≤ s0) (p5 : s0 ≤ 5) (T : Int) (hT : Hid (T = Hand.stepT e0 s0)) (h1 : (T == -1) = false) (hk : Hid (e0 = 7)) :
    Calls Tryd.prog 11 #[.agg #[.string c0, .int .i64 c1, .int .i64 c2, .int .i64 c3, .int .i64 c4, .int .i64 c5, .int .i64 c6, .int .i64 c7], .agg #[.int .i64 s0, .int .i64 s1, .int .i64 s2, .bool s3], .agg #[.int .i64 e0, .int .i64 e1, .int .i64 e2]] w
      fun e w' => e = .returned (.tuple #[.agg #[.int .i64 (Hand.stepW T s1 s2 s3 e0 e1 e2).1, .int .i64 (Hand.stepW T s1 s2 s3 e0 e1 e2).2.1, .int .i64 (Hand.stepW T s1 s2 s3 e0 e1 e2).2.2.1, .bool (Hand.stepW T s1 s2 s3 e0 e1 e2).2.2.2], .int .i64 0]) ∧ Below w.heap.size w w' := by
  have HI := Aside0.mk hi
  have HF := Aside0.mk hf
  clear hi hf
  have HV := Aside0.mk hv
  clear hv
  go_enter Tryd.func11, Tryd.ntmps11
  go_wp2_with fail
  refine (charger_Valid.calls _ _ _ _ _ _ _ _ _ _ _ _ true _ HV.out).mono ?_
  rintro e w1 ⟨rfl, hb1⟩
  have B1 := (Boxes.start c0 c1 c2 c3 c4 c5 c6 c7 s0 s1 s2 s3 e0 e1 e2 w).below hb1
  clear hb1 HV
  obtain ⟨hc, hs, he, hr, hfs, hfr, hlt, hbe⟩ := id B1
  have HB1 := Aside0.mk B1
  clear B1 hbe
  go_wp2_with fail
  refine (charger_in.calls _ _ _ true _ HI.out).mono ?_
  rintro e w' ⟨rfl, ⟨nd, rfl⟩⟩
  have B2 := HB1.out.below (pw_below_drewN (Below.refl _ _) nd)
  clear HB1 HI hc hs he hr hfs hfr hlt
  obtain ⟨hc, hs, he, hr, hfs, hfr, hlt, hbe⟩ := id B2
  have HB2 := Aside0.mk B2
  clear B2 hbe
  go_wp2_with fail
  refine (charger_fits.calls _ _ _ _ _ _ _ _ _ _ _ true _ HF.out).mono ?_
  rintro e w2 ⟨rfl, hb2⟩
  have B3 := HB2.out.below hb2
  have HB12 := Aside0.mk hb2
  clear hb2 HF hc hs he hr hfs hfr hlt
  obtain ⟨hc, hs, he, hr, hfs, hfr, hlt, hbe⟩ := B3
  have HBE := Aside0.mk hbe
  clear hbe
  have hg : w2.cell? ⟨0, e0.toNat * 6 + s0.toNat, none⟩ = some (.int .i64 T) := by
    have h := (hG.below HBE.out).cells e0.toNat s0.toNat (by omega) (by omega) (by omega)
    rw [Int.toNat_of_nonneg (by omega), Int.toNat_of_nonneg p0] at h
    rw [hT.out]; exact h
  clear HB2 HB12
  have hl1 : w.heap.size + 1 < w2.heap.size := by omega
  have hl2 : w.heap.size + 1 + 1 < w2.heap.size := by omega
  go_wp2_with fail
  go_quiet (fail)
  clear hg hc hT hG
  go_upto_region 13 with (fail)
  obtain ⟨w3, hw3⟩ : ∃ x, x = (((w2.drewN nq).setCell ⟨w.heap.size + 1, 0, none⟩ (.int .i64 T)).alloc (.cells #[.int .i64 e0, .int .i64 e1, .int .i64 0] 27)) := ⟨_, rfl⟩
  rw [← hw3]
  have n0 : ((w2.drewN nq).setCell ⟨w.heap.size + 1, 0, none⟩ (.int .i64 T)).heap.size = w2.heap.size := by simp [World.setCell]
  have ms : ∀ o, w3.cell? ⟨w.heap.size + 1, o, none⟩ = #[Value.int .i64 T, .int .i64 s1, .int .i64 s2, .bool s3][o]? := fun o => by
    rw [hw3, World.cell?_alloc_past _ _ _ (by rw [n0]; exact hl1)]; exact box_set _ _ 0 _ _ hs (by simp) o
  have me : ∀ o, w3.cell? ⟨w.heap.size + 1 + 1, o, none⟩ = #[Value.int .i64 e0, .int .i64 e1, .int .i64 e2][o]? := fun o => by
    rw [hw3, World.cell?_alloc_past _ _ _ (by rw [n0]; exact hl2), World.cell?_setCell_other _ _ _ _ (by simp)]; exact he o
  have mr : ∀ o, w3.cell? ⟨w.heap.size + 1 + 1 + 1, o, none⟩ = #[Value.int .i64 0, .int .i64 0, .int .i64 0, .bool false][o]? := fun o => by
    rw [hw3, World.cell?_alloc_past _ _ _ (by rw [n0]; exact hlt), World.cell?_setCell_other _ _ _ _ (by simp)]; exact hr o
  have mf : ∀ o, w3.cell? ⟨w2.heap.size, o, none⟩ = #[Value.int .i64 e0, .int .i64 e1, .int .i64 0][o]? := fun o => by
    rw [hw3, ← n0]; exact World.cell?_alloc_new _ _ _ _
  have mfs : ∀ o, w3.frozen? ⟨w.heap.size + 1, o, none⟩ = false := fun o => by rw [hw3, frozen?_alloc_cells, World.frozen?_setCell]; exact hfs o
  have mfr : ∀ o, w3.frozen? ⟨w.heap.size + 1 + 1 + 1, o, none⟩ = false := fun o => by rw [hw3, frozen?_alloc_cells, World.frozen?_setCell]; exact hfr o
  have MB : Aside0 (Below w.heap.size w w3) := Aside0.mk (by rw [hw3]; exact ((pw_below_drewN HBE.out _).setCell (by simp only []; omega) _).alloc (by rw [n0]; omega) _)
  clear hw3 n0 hs he hr hfs hfr HBE
  obtain rfl := hk.out
  clear k1 k9 hk
  go_wp2_with fail
  refine (lease_any _ _ _ _ _ _ _ _ ms mfs).mono ?_
  rintro e w4 ⟨rfl, ks, kc, kf, kz, kb⟩
  have kr : ∀ o, w4.cell? ⟨w.heap.size + 1 + 1 + 1, o, none⟩ = #[Value.int .i64 0, .int .i64 0, .int .i64 0, .bool false][o]? := fun o => (kc _ _ (by omega)).trans (mr o)
  have kfs : ∀ o, w4.frozen? ⟨w.heap.size + 1, o, none⟩ = false := fun o => (kf _).trans (mfs o)
  have kfr : ∀ o, w4.frozen? ⟨w.heap.size + 1 + 1 + 1, o, none⟩ = false := fun o => (kf _).trans (mfr o)
  have KB : Aside0 (Below w.heap.size w w4) := Aside0.mk (MB.out.trans (kb.mono (by omega)))
  clear kc kf kz kb ms me mr mf mfs mfr MB
  dsimp only
  cases s3 with
  | false =>
    go_wp2_with fail
    refine bodyPost_ret (v := .tuple #[.agg #[.int .i64 T, .int .i64 e1, .int .i64 e2, .bool false], .int .i64 0]) (by simp [results, Tryd.results11, go_sem, kr]; try rfl) rfl ⟨by simp [Hand.stepW], below_r KB.out (by omega) (by omega) (by omega) (by omega) _ _ _ _⟩
  | true =>
    go_wp2_with fail
    refine bodyPost_ret (v := .tuple #[.agg #[.int .i64 5, .int .i64 e1, .int .i64 e2, .bool true], .int .i64 0]) (by simp [results, Tryd.results11, go_sem, kr]; try rfl) rfl ⟨by simp [Hand.stepW], below_r (KB.out.setCell (by simp only []; omega) _) (by omega) (by omega) (by omega) (by omega) _ _ _ _⟩

set_option maxHeartbeats 8000000 in
set_option maxRecDepth 100000 in
theorem step_9 (c0 : ByteArray) (c1 c2 c3 c4 c5 c6 c7 s0 s1 s2 : Int) (s3 : Bool) (e0 e1 e2 : Int) (w : World) (hG : Hand.G w) (hv : charger_Valid.f c0 c1 c2 c3 c4 c5 c6 c7 s0 s1 s2 s3 = some true) (hi : charger_in.f e0 1 9 = some true) (hf : charger_fits.f c0 c1 c2 c3 c4 c5 c6 c7 e0 e1 e2 = some true)
    (k1 : 1 ≤ e0) (k9 : e0 ≤ 9) (p0 : 0 ≤ s0) (p5 : s0 ≤ 5) (T : Int) (hT : Hid (T = Hand.stepT e0 s0)) (h1 : (T == -1) = false) (hk : Hid (e0 = 9)) :
    Calls Tryd.prog 11 #[.agg #[.string c0, .int .i64 c1, .int .i64 c2, .int .i64 c3, .int .i64 c4, .int .i64 c5, .int .i64 c6, .int .i64 c7], .agg #[.int .i64 s0, .int .i64 s1, .int .i64 s2, .bool s3], .agg #[.int .i64 e0, .int .i64 e1, .int .i64 e2]] w
      fun e w' => e = .returned (.tuple #[.agg #[.int .i64 (Hand.stepW T s1 s2 s3 e0 e1 e2).1, .int .i64 (Hand.stepW T s1 s2 s3 e0 e1 e2).2.1, .int .i64 (Hand.stepW T s1 s2 s3 e0 e1 e2).2.2.1, .bool (Hand.stepW T s1 s2 s3 e0 e1 e2).2.2.2], .int .i64 0]) ∧ Below w.heap.size w w' := by
  have HI := Aside0.mk hi
  have HF := Aside0.mk hf
  clear hi hf
  have HV := Aside0.mk hv
  clear hv
  go_enter Tryd.func11, Tryd.ntmps11
  go_wp2_with fail
  refine (charger_Valid.calls _ _ _ _ _ _ _ _ _ _ _ _ true _ HV.out).mono ?_
  rintro e w1 ⟨rfl, hb1⟩
  have B1 := (Boxes.start c0 c1 c2 c3 c4 c5 c6 c7 s0 s1 s2 s3 e0 e1 e2 w).below hb1
  clear hb1 HV
  obtain ⟨hc, hs, he, hr, hfs, hfr, hlt, hbe⟩ := id B1
  have HB1 := Aside0.mk B1
  clear B1 hbe
  go_wp2_with fail
  refine (charger_in.calls _ _ _ true _ HI.out).mono ?_
  rintro e w' ⟨rfl, ⟨nd, rfl⟩⟩
  have B2 := HB1.out.below (pw_below_drewN (Below.refl _ _) nd)
  clear HB1 HI hc hs he hr hfs hfr hlt
  obtain ⟨hc, hs, he, hr, hfs, hfr, hlt, hbe⟩ := id B2
  have HB2 := Aside0.mk B2
  clear B2 hbe
  go_wp2_with fail
  refine (charger_fits.calls _ _ _ _ _ _ _ _ _ _ _ true _ HF.out).mono ?_
  rintro e w2 ⟨rfl, hb2⟩
  have B3 := HB2.out.below hb2
  have HB12 := Aside0.mk hb2
  clear hb2 HF hc hs he hr hfs hfr hlt
  obtain ⟨hc, hs, he, hr, hfs, hfr, hlt, hbe⟩ := B3
  have HBE := Aside0.mk hbe
  clear hbe
  have hg : w2.cell? ⟨0, e0.toNat * 6 + s0.toNat, none⟩ = some (.int .i64 T) := by
    have h := (hG.below HBE.out).cells e0.toNat s0.toNat (by omega) (by omega) (by omega)
    rw [Int.toNat_of_nonneg (by omega), Int.toNat_of_nonneg p0] at h
    rw [hT.out]; exact h
  clear HB2 HB12
  have hl1 : w.heap.size + 1 < w2.heap.size := by omega
  have hl2 : w.heap.size + 1 + 1 < w2.heap.size := by omega
  go_wp2_with fail
  go_quiet (fail)
  clear hg hc hT hG
  go_upto_region 13 with (fail)
  obtain ⟨w3, hw3⟩ : ∃ x, x = (((w2.drewN nq).setCell ⟨w.heap.size + 1, 0, none⟩ (.int .i64 T)).alloc (.cells #[.int .i64 e0, .int .i64 e1, .int .i64 0] 27)) := ⟨_, rfl⟩
  rw [← hw3]
  have n0 : ((w2.drewN nq).setCell ⟨w.heap.size + 1, 0, none⟩ (.int .i64 T)).heap.size = w2.heap.size := by simp [World.setCell]
  have ms : ∀ o, w3.cell? ⟨w.heap.size + 1, o, none⟩ = #[Value.int .i64 T, .int .i64 s1, .int .i64 s2, .bool s3][o]? := fun o => by
    rw [hw3, World.cell?_alloc_past _ _ _ (by rw [n0]; exact hl1)]; exact box_set _ _ 0 _ _ hs (by simp) o
  have me : ∀ o, w3.cell? ⟨w.heap.size + 1 + 1, o, none⟩ = #[Value.int .i64 e0, .int .i64 e1, .int .i64 e2][o]? := fun o => by
    rw [hw3, World.cell?_alloc_past _ _ _ (by rw [n0]; exact hl2), World.cell?_setCell_other _ _ _ _ (by simp)]; exact he o
  have mr : ∀ o, w3.cell? ⟨w.heap.size + 1 + 1 + 1, o, none⟩ = #[Value.int .i64 0, .int .i64 0, .int .i64 0, .bool false][o]? := fun o => by
    rw [hw3, World.cell?_alloc_past _ _ _ (by rw [n0]; exact hlt), World.cell?_setCell_other _ _ _ _ (by simp)]; exact hr o
  have mf : ∀ o, w3.cell? ⟨w2.heap.size, o, none⟩ = #[Value.int .i64 e0, .int .i64 e1, .int .i64 0][o]? := fun o => by
    rw [hw3, ← n0]; exact World.cell?_alloc_new _ _ _ _
  have mfs : ∀ o, w3.frozen? ⟨w.heap.size + 1, o, none⟩ = false := fun o => by rw [hw3, frozen?_alloc_cells, World.frozen?_setCell]; exact hfs o
  have mfr : ∀ o, w3.frozen? ⟨w.heap.size + 1 + 1 + 1, o, none⟩ = false := fun o => by rw [hw3, frozen?_alloc_cells, World.frozen?_setCell]; exact hfr o
  have MB : Aside0 (Below w.heap.size w w3) := Aside0.mk (by rw [hw3]; exact ((pw_below_drewN HBE.out _).setCell (by simp only []; omega) _).alloc (by rw [n0]; omega) _)
  clear hw3 n0 hs he hr hfs hfr HBE
  obtain rfl := hk.out
  clear k1 k9 hk
  go_wp2_with fail
  refine (lease_any _ _ _ _ _ _ _ _ ms mfs).mono ?_
  rintro e w4 ⟨rfl, ks, kc, kf, kz, kb⟩
  have kr : ∀ o, w4.cell? ⟨w.heap.size + 1 + 1 + 1, o, none⟩ = #[Value.int .i64 0, .int .i64 0, .int .i64 0, .bool false][o]? := fun o => (kc _ _ (by omega)).trans (mr o)
  have kfs : ∀ o, w4.frozen? ⟨w.heap.size + 1, o, none⟩ = false := fun o => (kf _).trans (mfs o)
  have kfr : ∀ o, w4.frozen? ⟨w.heap.size + 1 + 1 + 1, o, none⟩ = false := fun o => (kf _).trans (mfr o)
  have KB : Aside0 (Below w.heap.size w w4) := Aside0.mk (MB.out.trans (kb.mono (by omega)))
  clear kc kf kz kb ms me mr mf mfs mfr MB
  dsimp only
  cases s3 with
  | false =>
    go_wp2_with fail
    refine bodyPost_ret (v := .tuple #[.agg #[.int .i64 T, .int .i64 0, .int .i64 0, .bool false], .int .i64 0]) (by simp [results, Tryd.results11, go_sem, kr]; try rfl) rfl ⟨by simp [Hand.stepW], below_r KB.out (by omega) (by omega) (by omega) (by omega) _ _ _ _⟩
  | true =>
    go_wp2_with fail
    refine bodyPost_ret (v := .tuple #[.agg #[.int .i64 5, .int .i64 0, .int .i64 0, .bool true], .int .i64 0]) (by simp [results, Tryd.results11, go_sem, kr]; try rfl) rfl ⟨by simp [Hand.stepW], below_r (KB.out.setCell (by simp only []; omega) _) (by omega) (by omega) (by omega) (by omega) _ _ _ _⟩

set_option maxHeartbeats 8000000 in
set_option maxRecDepth 100000 in
theorem step_8a (c0 : ByteArray) (c1 c2 c3 c4 c5 c6 c7 s0 s1 s2 : Int) (s3 : Bool) (e0 e1 e2 : Int) (w : World) (hG : Hand.G w) (hv : charger_Valid.f c0 c1 c2 c3 c4 c5 c6 c7 s0 s1 s2 s3 = some true) (hi : charger_in.f e0 1 9 = some true) (hf : charger_fits.f c0 c1 c2 c3 c4 c5 c6 c7 e0 e1 e2 = some true)
    (k1 : 1 ≤ e0) (k9 : e0 ≤ 9) (p0 : 0 ≤ s0) (p5 : s0 ≤ 5) (T : Int) (hT : Hid (T = Hand.stepT e0 s0)) (h1 : (T == -1) = false) (hk : Hid (e0 = 8)) (hl : 1 < s2) (hm : s2 ≤ 1000000) :
    Calls Tryd.prog 11 #[.agg #[.string c0, .int .i64 c1, .int .i64 c2, .int .i64 c3, .int .i64 c4, .int .i64 c5, .int .i64 c6, .int .i64 c7], .agg #[.int .i64 s0, .int .i64 s1, .int .i64 s2, .bool s3], .agg #[.int .i64 e0, .int .i64 e1, .int .i64 e2]] w
      fun e w' => e = .returned (.tuple #[.agg #[.int .i64 (Hand.stepW T s1 s2 s3 e0 e1 e2).1, .int .i64 (Hand.stepW T s1 s2 s3 e0 e1 e2).2.1, .int .i64 (Hand.stepW T s1 s2 s3 e0 e1 e2).2.2.1, .bool (Hand.stepW T s1 s2 s3 e0 e1 e2).2.2.2], .int .i64 0]) ∧ Below w.heap.size w w' := by
  have HI := Aside0.mk hi
  have HF := Aside0.mk hf
  clear hi hf
  have HV := Aside0.mk hv
  clear hv
  go_enter Tryd.func11, Tryd.ntmps11
  go_wp2_with fail
  refine (charger_Valid.calls _ _ _ _ _ _ _ _ _ _ _ _ true _ HV.out).mono ?_
  rintro e w1 ⟨rfl, hb1⟩
  have B1 := (Boxes.start c0 c1 c2 c3 c4 c5 c6 c7 s0 s1 s2 s3 e0 e1 e2 w).below hb1
  clear hb1 HV
  obtain ⟨hc, hs, he, hr, hfs, hfr, hlt, hbe⟩ := id B1
  have HB1 := Aside0.mk B1
  clear B1 hbe
  go_wp2_with fail
  refine (charger_in.calls _ _ _ true _ HI.out).mono ?_
  rintro e w' ⟨rfl, ⟨nd, rfl⟩⟩
  have B2 := HB1.out.below (pw_below_drewN (Below.refl _ _) nd)
  clear HB1 HI hc hs he hr hfs hfr hlt
  obtain ⟨hc, hs, he, hr, hfs, hfr, hlt, hbe⟩ := id B2
  have HB2 := Aside0.mk B2
  clear B2 hbe
  go_wp2_with fail
  refine (charger_fits.calls _ _ _ _ _ _ _ _ _ _ _ true _ HF.out).mono ?_
  rintro e w2 ⟨rfl, hb2⟩
  have B3 := HB2.out.below hb2
  have HB12 := Aside0.mk hb2
  clear hb2 HF hc hs he hr hfs hfr hlt
  obtain ⟨hc, hs, he, hr, hfs, hfr, hlt, hbe⟩ := B3
  have HBE := Aside0.mk hbe
  clear hbe
  have hg : w2.cell? ⟨0, e0.toNat * 6 + s0.toNat, none⟩ = some (.int .i64 T) := by
    have h := (hG.below HBE.out).cells e0.toNat s0.toNat (by omega) (by omega) (by omega)
    rw [Int.toNat_of_nonneg (by omega), Int.toNat_of_nonneg p0] at h
    rw [hT.out]; exact h
  clear HB2 HB12
  have hl1 : w.heap.size + 1 < w2.heap.size := by omega
  have hl2 : w.heap.size + 1 + 1 < w2.heap.size := by omega
  go_wp2_with fail
  go_quiet (fail)
  clear hg hc hT hG
  go_upto_region 13 with (fail)
  obtain ⟨w3, hw3⟩ : ∃ x, x = (((w2.drewN nq).setCell ⟨w.heap.size + 1, 0, none⟩ (.int .i64 T)).alloc (.cells #[.int .i64 e0, .int .i64 e1, .int .i64 0] 27)) := ⟨_, rfl⟩
  rw [← hw3]
  have n0 : ((w2.drewN nq).setCell ⟨w.heap.size + 1, 0, none⟩ (.int .i64 T)).heap.size = w2.heap.size := by simp [World.setCell]
  have ms : ∀ o, w3.cell? ⟨w.heap.size + 1, o, none⟩ = #[Value.int .i64 T, .int .i64 s1, .int .i64 s2, .bool s3][o]? := fun o => by
    rw [hw3, World.cell?_alloc_past _ _ _ (by rw [n0]; exact hl1)]; exact box_set _ _ 0 _ _ hs (by simp) o
  have me : ∀ o, w3.cell? ⟨w.heap.size + 1 + 1, o, none⟩ = #[Value.int .i64 e0, .int .i64 e1, .int .i64 e2][o]? := fun o => by
    rw [hw3, World.cell?_alloc_past _ _ _ (by rw [n0]; exact hl2), World.cell?_setCell_other _ _ _ _ (by simp)]; exact he o
  have mr : ∀ o, w3.cell? ⟨w.heap.size + 1 + 1 + 1, o, none⟩ = #[Value.int .i64 0, .int .i64 0, .int .i64 0, .bool false][o]? := fun o => by
    rw [hw3, World.cell?_alloc_past _ _ _ (by rw [n0]; exact hlt), World.cell?_setCell_other _ _ _ _ (by simp)]; exact hr o
  have mf : ∀ o, w3.cell? ⟨w2.heap.size, o, none⟩ = #[Value.int .i64 e0, .int .i64 e1, .int .i64 0][o]? := fun o => by
    rw [hw3, ← n0]; exact World.cell?_alloc_new _ _ _ _
  have mfs : ∀ o, w3.frozen? ⟨w.heap.size + 1, o, none⟩ = false := fun o => by rw [hw3, frozen?_alloc_cells, World.frozen?_setCell]; exact hfs o
  have mfr : ∀ o, w3.frozen? ⟨w.heap.size + 1 + 1 + 1, o, none⟩ = false := fun o => by rw [hw3, frozen?_alloc_cells, World.frozen?_setCell]; exact hfr o
  have MB : Aside0 (Below w.heap.size w w3) := Aside0.mk (by rw [hw3]; exact ((pw_below_drewN HBE.out _).setCell (by simp only []; omega) _).alloc (by rw [n0]; omega) _)
  clear hw3 n0 hs he hr hfs hfr HBE
  obtain rfl := hk.out
  clear k1 k9 hk
  go_wp2_with fail
  refine (lease_any _ _ _ _ _ _ _ _ ms mfs).mono ?_
  rintro e w4 ⟨rfl, ks, kc, kf, kz, kb⟩
  have kr : ∀ o, w4.cell? ⟨w.heap.size + 1 + 1 + 1, o, none⟩ = #[Value.int .i64 0, .int .i64 0, .int .i64 0, .bool false][o]? := fun o => (kc _ _ (by omega)).trans (mr o)
  have kfs : ∀ o, w4.frozen? ⟨w.heap.size + 1, o, none⟩ = false := fun o => (kf _).trans (mfs o)
  have kfr : ∀ o, w4.frozen? ⟨w.heap.size + 1 + 1 + 1, o, none⟩ = false := fun o => (kf _).trans (mfr o)
  have KB : Aside0 (Below w.heap.size w w4) := Aside0.mk (MB.out.trans (kb.mono (by omega)))
  clear kc kf kz kb ms me mr mf mfs mfr MB
  dsimp only
  cases s3 with
  | false =>
    go_wp2_with fail
    refine bodyPost_ret (v := .tuple #[.agg #[.int .i64 T, .int .i64 s1, .int .i64 (s2 - 1), .bool false], .int .i64 0]) (by simp [results, Tryd.results11, go_sem, kr]; try rfl) rfl ⟨by simp [Hand.stepW, hl], below_r KB.out (by omega) (by omega) (by omega) (by omega) _ _ _ _⟩
  | true =>
    go_wp2_with fail
    refine bodyPost_ret (v := .tuple #[.agg #[.int .i64 5, .int .i64 s1, .int .i64 (s2 - 1), .bool true], .int .i64 0]) (by simp [results, Tryd.results11, go_sem, kr]; try rfl) rfl ⟨by simp [Hand.stepW, hl], below_r (KB.out.setCell (by simp only []; omega) _) (by omega) (by omega) (by omega) (by omega) _ _ _ _⟩

set_option maxHeartbeats 8000000 in
set_option maxRecDepth 100000 in
theorem step_8b (c0 : ByteArray) (c1 c2 c3 c4 c5 c6 c7 s0 s1 s2 : Int) (s3 : Bool) (e0 e1 e2 : Int) (w : World) (hG : Hand.G w) (hv : charger_Valid.f c0 c1 c2 c3 c4 c5 c6 c7 s0 s1 s2 s3 = some true) (hi : charger_in.f e0 1 9 = some true) (hf : charger_fits.f c0 c1 c2 c3 c4 c5 c6 c7 e0 e1 e2 = some true)
    (k1 : 1 ≤ e0) (k9 : e0 ≤ 9) (p0 : 0 ≤ s0) (p5 : s0 ≤ 5) (T : Int) (hT : Hid (T = Hand.stepT e0 s0)) (h1 : (T == -1) = false) (hk : Hid (e0 = 8)) (hl : s2 ≤ 1) :
    Calls Tryd.prog 11 #[.agg #[.string c0, .int .i64 c1, .int .i64 c2, .int .i64 c3, .int .i64 c4, .int .i64 c5, .int .i64 c6, .int .i64 c7], .agg #[.int .i64 s0, .int .i64 s1, .int .i64 s2, .bool s3], .agg #[.int .i64 e0, .int .i64 e1, .int .i64 e2]] w
      fun e w' => e = .returned (.tuple #[.agg #[.int .i64 (Hand.stepW T s1 s2 s3 e0 e1 e2).1, .int .i64 (Hand.stepW T s1 s2 s3 e0 e1 e2).2.1, .int .i64 (Hand.stepW T s1 s2 s3 e0 e1 e2).2.2.1, .bool (Hand.stepW T s1 s2 s3 e0 e1 e2).2.2.2], .int .i64 0]) ∧ Below w.heap.size w w' := by
  have HI := Aside0.mk hi
  have HF := Aside0.mk hf
  clear hi hf
  have HV := Aside0.mk hv
  clear hv
  go_enter Tryd.func11, Tryd.ntmps11
  go_wp2_with fail
  refine (charger_Valid.calls _ _ _ _ _ _ _ _ _ _ _ _ true _ HV.out).mono ?_
  rintro e w1 ⟨rfl, hb1⟩
  have B1 := (Boxes.start c0 c1 c2 c3 c4 c5 c6 c7 s0 s1 s2 s3 e0 e1 e2 w).below hb1
  clear hb1 HV
  obtain ⟨hc, hs, he, hr, hfs, hfr, hlt, hbe⟩ := id B1
  have HB1 := Aside0.mk B1
  clear B1 hbe
  go_wp2_with fail
  refine (charger_in.calls _ _ _ true _ HI.out).mono ?_
  rintro e w' ⟨rfl, ⟨nd, rfl⟩⟩
  have B2 := HB1.out.below (pw_below_drewN (Below.refl _ _) nd)
  clear HB1 HI hc hs he hr hfs hfr hlt
  obtain ⟨hc, hs, he, hr, hfs, hfr, hlt, hbe⟩ := id B2
  have HB2 := Aside0.mk B2
  clear B2 hbe
  go_wp2_with fail
  refine (charger_fits.calls _ _ _ _ _ _ _ _ _ _ _ true _ HF.out).mono ?_
  rintro e w2 ⟨rfl, hb2⟩
  have B3 := HB2.out.below hb2
  have HB12 := Aside0.mk hb2
  clear hb2 HF hc hs he hr hfs hfr hlt
  obtain ⟨hc, hs, he, hr, hfs, hfr, hlt, hbe⟩ := B3
  have HBE := Aside0.mk hbe
  clear hbe
  have hg : w2.cell? ⟨0, e0.toNat * 6 + s0.toNat, none⟩ = some (.int .i64 T) := by
    have h := (hG.below HBE.out).cells e0.toNat s0.toNat (by omega) (by omega) (by omega)
    rw [Int.toNat_of_nonneg (by omega), Int.toNat_of_nonneg p0] at h
    rw [hT.out]; exact h
  clear HB2 HB12
  have hl1 : w.heap.size + 1 < w2.heap.size := by omega
  have hl2 : w.heap.size + 1 + 1 < w2.heap.size := by omega
  go_wp2_with fail
  go_quiet (fail)
  clear hg hc hT hG
  go_upto_region 13 with (fail)
  obtain ⟨w3, hw3⟩ : ∃ x, x = (((w2.drewN nq).setCell ⟨w.heap.size + 1, 0, none⟩ (.int .i64 T)).alloc (.cells #[.int .i64 e0, .int .i64 e1, .int .i64 0] 27)) := ⟨_, rfl⟩
  rw [← hw3]
  have n0 : ((w2.drewN nq).setCell ⟨w.heap.size + 1, 0, none⟩ (.int .i64 T)).heap.size = w2.heap.size := by simp [World.setCell]
  have ms : ∀ o, w3.cell? ⟨w.heap.size + 1, o, none⟩ = #[Value.int .i64 T, .int .i64 s1, .int .i64 s2, .bool s3][o]? := fun o => by
    rw [hw3, World.cell?_alloc_past _ _ _ (by rw [n0]; exact hl1)]; exact box_set _ _ 0 _ _ hs (by simp) o
  have me : ∀ o, w3.cell? ⟨w.heap.size + 1 + 1, o, none⟩ = #[Value.int .i64 e0, .int .i64 e1, .int .i64 e2][o]? := fun o => by
    rw [hw3, World.cell?_alloc_past _ _ _ (by rw [n0]; exact hl2), World.cell?_setCell_other _ _ _ _ (by simp)]; exact he o
  have mr : ∀ o, w3.cell? ⟨w.heap.size + 1 + 1 + 1, o, none⟩ = #[Value.int .i64 0, .int .i64 0, .int .i64 0, .bool false][o]? := fun o => by
    rw [hw3, World.cell?_alloc_past _ _ _ (by rw [n0]; exact hlt), World.cell?_setCell_other _ _ _ _ (by simp)]; exact hr o
  have mf : ∀ o, w3.cell? ⟨w2.heap.size, o, none⟩ = #[Value.int .i64 e0, .int .i64 e1, .int .i64 0][o]? := fun o => by
    rw [hw3, ← n0]; exact World.cell?_alloc_new _ _ _ _
  have mfs : ∀ o, w3.frozen? ⟨w.heap.size + 1, o, none⟩ = false := fun o => by rw [hw3, frozen?_alloc_cells, World.frozen?_setCell]; exact hfs o
  have mfr : ∀ o, w3.frozen? ⟨w.heap.size + 1 + 1 + 1, o, none⟩ = false := fun o => by rw [hw3, frozen?_alloc_cells, World.frozen?_setCell]; exact hfr o
  have MB : Aside0 (Below w.heap.size w w3) := Aside0.mk (by rw [hw3]; exact ((pw_below_drewN HBE.out _).setCell (by simp only []; omega) _).alloc (by rw [n0]; omega) _)
  clear hw3 n0 hs he hr hfs hfr HBE
  obtain rfl := hk.out
  clear k1 k9 hk
  go_wp2_with fail
  refine (lease_any _ _ _ _ _ _ _ _ ms mfs).mono ?_
  rintro e w4 ⟨rfl, ks, kc, kf, kz, kb⟩
  have kr : ∀ o, w4.cell? ⟨w.heap.size + 1 + 1 + 1, o, none⟩ = #[Value.int .i64 0, .int .i64 0, .int .i64 0, .bool false][o]? := fun o => (kc _ _ (by omega)).trans (mr o)
  have kfs : ∀ o, w4.frozen? ⟨w.heap.size + 1, o, none⟩ = false := fun o => (kf _).trans (mfs o)
  have kfr : ∀ o, w4.frozen? ⟨w.heap.size + 1 + 1 + 1, o, none⟩ = false := fun o => (kf _).trans (mfr o)
  have KB : Aside0 (Below w.heap.size w w4) := Aside0.mk (MB.out.trans (kb.mono (by omega)))
  clear kc kf kz kb ms me mr mf mfs mfr MB
  dsimp only
  cases s3 with
  | false =>
    go_wp2_with fail
    refine bodyPost_ret (v := .tuple #[.agg #[.int .i64 T, .int .i64 0, .int .i64 0, .bool false], .int .i64 0]) (by simp [results, Tryd.results11, go_sem, kr]; try rfl) rfl ⟨by simp [Hand.stepW, show ¬ 1 < s2 by omega], below_r KB.out (by omega) (by omega) (by omega) (by omega) _ _ _ _⟩
  | true =>
    go_wp2_with fail
    refine bodyPost_ret (v := .tuple #[.agg #[.int .i64 5, .int .i64 0, .int .i64 0, .bool true], .int .i64 0]) (by simp [results, Tryd.results11, go_sem, kr]; try rfl) rfl ⟨by simp [Hand.stepW, show ¬ 1 < s2 by omega], below_r (KB.out.setCell (by simp only []; omega) _) (by omega) (by omega) (by omega) (by omega) _ _ _ _⟩

set_option maxHeartbeats 8000000 in
set_option maxRecDepth 100000 in
theorem step_6a (c0 : ByteArray) (c1 c2 c3 c4 c5 c6 c7 s0 s1 s2 : Int) (s3 : Bool) (e0 e1 e2 : Int) (w : World) (hG : Hand.G w) (hv : charger_Valid.f c0 c1 c2 c3 c4 c5 c6 c7 s0 s1 s2 s3 = some true) (hi : charger_in.f e0 1 9 = some true) (hf : charger_fits.f c0 c1 c2 c3 c4 c5 c6 c7 e0 e1 e2 = some true)
    (k1 : 1 ≤ e0) (k9 : e0 ≤ 9) (p0 : 0 ≤ s0) (p5 : s0 ≤ 5) (T : Int) (hT : Hid (T = Hand.stepT e0 s0)) (h1 : (T == -1) = false) (hk : Hid (e0 = 6)) (hn : Hid (e1 = 1)) :
    Calls Tryd.prog 11 #[.agg #[.string c0, .int .i64 c1, .int .i64 c2, .int .i64 c3, .int .i64 c4, .int .i64 c5, .int .i64 c6, .int .i64 c7], .agg #[.int .i64 s0, .int .i64 s1, .int .i64 s2, .bool s3], .agg #[.int .i64 e0, .int .i64 e1, .int .i64 e2]] w
      fun e w' => e = .returned (.tuple #[.agg #[.int .i64 (Hand.stepW T s1 s2 s3 e0 e1 e2).1, .int .i64 (Hand.stepW T s1 s2 s3 e0 e1 e2).2.1, .int .i64 (Hand.stepW T s1 s2 s3 e0 e1 e2).2.2.1, .bool (Hand.stepW T s1 s2 s3 e0 e1 e2).2.2.2], .int .i64 0]) ∧ Below w.heap.size w w' := by
  have HI := Aside0.mk hi
  have HF := Aside0.mk hf
  clear hi hf
  have HV := Aside0.mk hv
  clear hv
  go_enter Tryd.func11, Tryd.ntmps11
  go_wp2_with fail
  refine (charger_Valid.calls _ _ _ _ _ _ _ _ _ _ _ _ true _ HV.out).mono ?_
  rintro e w1 ⟨rfl, hb1⟩
  have B1 := (Boxes.start c0 c1 c2 c3 c4 c5 c6 c7 s0 s1 s2 s3 e0 e1 e2 w).below hb1
  clear hb1 HV
  obtain ⟨hc, hs, he, hr, hfs, hfr, hlt, hbe⟩ := id B1
  have HB1 := Aside0.mk B1
  clear B1 hbe
  go_wp2_with fail
  refine (charger_in.calls _ _ _ true _ HI.out).mono ?_
  rintro e w' ⟨rfl, ⟨nd, rfl⟩⟩
  have B2 := HB1.out.below (pw_below_drewN (Below.refl _ _) nd)
  clear HB1 HI hc hs he hr hfs hfr hlt
  obtain ⟨hc, hs, he, hr, hfs, hfr, hlt, hbe⟩ := id B2
  have HB2 := Aside0.mk B2
  clear B2 hbe
  go_wp2_with fail
  refine (charger_fits.calls _ _ _ _ _ _ _ _ _ _ _ true _ HF.out).mono ?_
  rintro e w2 ⟨rfl, hb2⟩
  have B3 := HB2.out.below hb2
  have HB12 := Aside0.mk hb2
  clear hb2 HF hc hs he hr hfs hfr hlt
  obtain ⟨hc, hs, he, hr, hfs, hfr, hlt, hbe⟩ := B3
  have HBE := Aside0.mk hbe
  clear hbe
  have hg : w2.cell? ⟨0, e0.toNat * 6 + s0.toNat, none⟩ = some (.int .i64 T) := by
    have h := (hG.below HBE.out).cells e0.toNat s0.toNat (by omega) (by omega) (by omega)
    rw [Int.toNat_of_nonneg (by omega), Int.toNat_of_nonneg p0] at h
    rw [hT.out]; exact h
  clear HB2 HB12
  have hl1 : w.heap.size + 1 < w2.heap.size := by omega
  have hl2 : w.heap.size + 1 + 1 < w2.heap.size := by omega
  go_wp2_with fail
  go_quiet (fail)
  clear hg hc hT hG
  go_upto_region 13 with (fail)
  obtain ⟨w3, hw3⟩ : ∃ x, x = (((w2.drewN nq).setCell ⟨w.heap.size + 1, 0, none⟩ (.int .i64 T)).alloc (.cells #[.int .i64 e0, .int .i64 e1, .int .i64 0] 27)) := ⟨_, rfl⟩
  rw [← hw3]
  have n0 : ((w2.drewN nq).setCell ⟨w.heap.size + 1, 0, none⟩ (.int .i64 T)).heap.size = w2.heap.size := by simp [World.setCell]
  have ms : ∀ o, w3.cell? ⟨w.heap.size + 1, o, none⟩ = #[Value.int .i64 T, .int .i64 s1, .int .i64 s2, .bool s3][o]? := fun o => by
    rw [hw3, World.cell?_alloc_past _ _ _ (by rw [n0]; exact hl1)]; exact box_set _ _ 0 _ _ hs (by simp) o
  have me : ∀ o, w3.cell? ⟨w.heap.size + 1 + 1, o, none⟩ = #[Value.int .i64 e0, .int .i64 e1, .int .i64 e2][o]? := fun o => by
    rw [hw3, World.cell?_alloc_past _ _ _ (by rw [n0]; exact hl2), World.cell?_setCell_other _ _ _ _ (by simp)]; exact he o
  have mr : ∀ o, w3.cell? ⟨w.heap.size + 1 + 1 + 1, o, none⟩ = #[Value.int .i64 0, .int .i64 0, .int .i64 0, .bool false][o]? := fun o => by
    rw [hw3, World.cell?_alloc_past _ _ _ (by rw [n0]; exact hlt), World.cell?_setCell_other _ _ _ _ (by simp)]; exact hr o
  have mf : ∀ o, w3.cell? ⟨w2.heap.size, o, none⟩ = #[Value.int .i64 e0, .int .i64 e1, .int .i64 0][o]? := fun o => by
    rw [hw3, ← n0]; exact World.cell?_alloc_new _ _ _ _
  have mfs : ∀ o, w3.frozen? ⟨w.heap.size + 1, o, none⟩ = false := fun o => by rw [hw3, frozen?_alloc_cells, World.frozen?_setCell]; exact hfs o
  have mfr : ∀ o, w3.frozen? ⟨w.heap.size + 1 + 1 + 1, o, none⟩ = false := fun o => by rw [hw3, frozen?_alloc_cells, World.frozen?_setCell]; exact hfr o
  have MB : Aside0 (Below w.heap.size w w3) := Aside0.mk (by rw [hw3]; exact ((pw_below_drewN HBE.out _).setCell (by simp only []; omega) _).alloc (by rw [n0]; omega) _)
  clear hw3 n0 hs he hr hfs hfr HBE
  obtain rfl := hk.out
  obtain rfl := hn.out
  clear k1 k9 hk hn
  cases s3 with
  | false =>
    go_wp2_with fail
    refine bodyPost_ret (v := .tuple #[.agg #[.int .i64 5, .int .i64 s1, .int .i64 s2, .bool true], .int .i64 0]) (by simp [results, Tryd.results11, go_sem, ms, mr]; try rfl) rfl ⟨by simp [Hand.stepW], below_r ((MB.out.setCell (by simp only []; omega) _).setCell (by simp only []; omega) _) (by omega) (by omega) (by omega) (by omega) _ _ _ _⟩
  | true =>
    go_wp2_with fail
    refine bodyPost_ret (v := .tuple #[.agg #[.int .i64 5, .int .i64 s1, .int .i64 s2, .bool true], .int .i64 0]) (by simp [results, Tryd.results11, go_sem, ms, mr]; try rfl) rfl ⟨by simp [Hand.stepW], below_r ((MB.out.setCell (by simp only []; omega) _).setCell (by simp only []; omega) _) (by omega) (by omega) (by omega) (by omega) _ _ _ _⟩

set_option maxHeartbeats 8000000 in
set_option maxRecDepth 100000 in
theorem step_6b (c0 : ByteArray) (c1 c2 c3 c4 c5 c6 c7 s0 s1 s2 : Int) (s3 : Bool) (e0 e1 e2 : Int) (w : World) (hG : Hand.G w) (hv : charger_Valid.f c0 c1 c2 c3 c4 c5 c6 c7 s0 s1 s2 s3 = some true) (hi : charger_in.f e0 1 9 = some true) (hf : charger_fits.f c0 c1 c2 c3 c4 c5 c6 c7 e0 e1 e2 = some true)
    (k1 : 1 ≤ e0) (k9 : e0 ≤ 9) (p0 : 0 ≤ s0) (p5 : s0 ≤ 5) (T : Int) (hT : Hid (T = Hand.stepT e0 s0)) (h1 : (T == -1) = false) (hk : Hid (e0 = 6)) (hn : Hid (e1 = 2)) :
    Calls Tryd.prog 11 #[.agg #[.string c0, .int .i64 c1, .int .i64 c2, .int .i64 c3, .int .i64 c4, .int .i64 c5, .int .i64 c6, .int .i64 c7], .agg #[.int .i64 s0, .int .i64 s1, .int .i64 s2, .bool s3], .agg #[.int .i64 e0, .int .i64 e1, .int .i64 e2]] w
      fun e w' => e = .returned (.tuple #[.agg #[.int .i64 (Hand.stepW T s1 s2 s3 e0 e1 e2).1, .int .i64 (Hand.stepW T s1 s2 s3 e0 e1 e2).2.1, .int .i64 (Hand.stepW T s1 s2 s3 e0 e1 e2).2.2.1, .bool (Hand.stepW T s1 s2 s3 e0 e1 e2).2.2.2], .int .i64 0]) ∧ Below w.heap.size w w' := by
  have HI := Aside0.mk hi
  have HF := Aside0.mk hf
  clear hi hf
  have HV := Aside0.mk hv
  clear hv
  go_enter Tryd.func11, Tryd.ntmps11
  go_wp2_with fail
  refine (charger_Valid.calls _ _ _ _ _ _ _ _ _ _ _ _ true _ HV.out).mono ?_
  rintro e w1 ⟨rfl, hb1⟩
  have B1 := (Boxes.start c0 c1 c2 c3 c4 c5 c6 c7 s0 s1 s2 s3 e0 e1 e2 w).below hb1
  clear hb1 HV
  obtain ⟨hc, hs, he, hr, hfs, hfr, hlt, hbe⟩ := id B1
  have HB1 := Aside0.mk B1
  clear B1 hbe
  go_wp2_with fail
  refine (charger_in.calls _ _ _ true _ HI.out).mono ?_
  rintro e w' ⟨rfl, ⟨nd, rfl⟩⟩
  have B2 := HB1.out.below (pw_below_drewN (Below.refl _ _) nd)
  clear HB1 HI hc hs he hr hfs hfr hlt
  obtain ⟨hc, hs, he, hr, hfs, hfr, hlt, hbe⟩ := id B2
  have HB2 := Aside0.mk B2
  clear B2 hbe
  go_wp2_with fail
  refine (charger_fits.calls _ _ _ _ _ _ _ _ _ _ _ true _ HF.out).mono ?_
  rintro e w2 ⟨rfl, hb2⟩
  have B3 := HB2.out.below hb2
  have HB12 := Aside0.mk hb2
  clear hb2 HF hc hs he hr hfs hfr hlt
  obtain ⟨hc, hs, he, hr, hfs, hfr, hlt, hbe⟩ := B3
  have HBE := Aside0.mk hbe
  clear hbe
  have hg : w2.cell? ⟨0, e0.toNat * 6 + s0.toNat, none⟩ = some (.int .i64 T) := by
    have h := (hG.below HBE.out).cells e0.toNat s0.toNat (by omega) (by omega) (by omega)
    rw [Int.toNat_of_nonneg (by omega), Int.toNat_of_nonneg p0] at h
    rw [hT.out]; exact h
  clear HB2 HB12
  have hl1 : w.heap.size + 1 < w2.heap.size := by omega
  have hl2 : w.heap.size + 1 + 1 < w2.heap.size := by omega
  go_wp2_with fail
  go_quiet (fail)
  clear hg hc hT hG
  go_upto_region 13 with (fail)
  obtain ⟨w3, hw3⟩ : ∃ x, x = (((w2.drewN nq).setCell ⟨w.heap.size + 1, 0, none⟩ (.int .i64 T)).alloc (.cells #[.int .i64 e0, .int .i64 e1, .int .i64 0] 27)) := ⟨_, rfl⟩
  rw [← hw3]
  have n0 : ((w2.drewN nq).setCell ⟨w.heap.size + 1, 0, none⟩ (.int .i64 T)).heap.size = w2.heap.size := by simp [World.setCell]
  have ms : ∀ o, w3.cell? ⟨w.heap.size + 1, o, none⟩ = #[Value.int .i64 T, .int .i64 s1, .int .i64 s2, .bool s3][o]? := fun o => by
    rw [hw3, World.cell?_alloc_past _ _ _ (by rw [n0]; exact hl1)]; exact box_set _ _ 0 _ _ hs (by simp) o
  have me : ∀ o, w3.cell? ⟨w.heap.size + 1 + 1, o, none⟩ = #[Value.int .i64 e0, .int .i64 e1, .int .i64 e2][o]? := fun o => by
    rw [hw3, World.cell?_alloc_past _ _ _ (by rw [n0]; exact hl2), World.cell?_setCell_other _ _ _ _ (by simp)]; exact he o
  have mr : ∀ o, w3.cell? ⟨w.heap.size + 1 + 1 + 1, o, none⟩ = #[Value.int .i64 0, .int .i64 0, .int .i64 0, .bool false][o]? := fun o => by
    rw [hw3, World.cell?_alloc_past _ _ _ (by rw [n0]; exact hlt), World.cell?_setCell_other _ _ _ _ (by simp)]; exact hr o
  have mf : ∀ o, w3.cell? ⟨w2.heap.size, o, none⟩ = #[Value.int .i64 e0, .int .i64 e1, .int .i64 0][o]? := fun o => by
    rw [hw3, ← n0]; exact World.cell?_alloc_new _ _ _ _
  have mfs : ∀ o, w3.frozen? ⟨w.heap.size + 1, o, none⟩ = false := fun o => by rw [hw3, frozen?_alloc_cells, World.frozen?_setCell]; exact hfs o
  have mfr : ∀ o, w3.frozen? ⟨w.heap.size + 1 + 1 + 1, o, none⟩ = false := fun o => by rw [hw3, frozen?_alloc_cells, World.frozen?_setCell]; exact hfr o
  have MB : Aside0 (Below w.heap.size w w3) := Aside0.mk (by rw [hw3]; exact ((pw_below_drewN HBE.out _).setCell (by simp only []; omega) _).alloc (by rw [n0]; omega) _)
  clear hw3 n0 hs he hr hfs hfr HBE
  obtain rfl := hk.out
  obtain rfl := hn.out
  clear k1 k9 hk hn
  cases s3 with
  | false =>
    go_wp2_with fail
    refine bodyPost_ret (v := .tuple #[.agg #[.int .i64 5, .int .i64 s1, .int .i64 s2, .bool false], .int .i64 0]) (by simp [results, Tryd.results11, go_sem, ms, mr]; try rfl) rfl ⟨by simp [Hand.stepW], below_r (MB.out.setCell (by simp only []; omega) _) (by omega) (by omega) (by omega) (by omega) _ _ _ _⟩
  | true =>
    go_wp2_with fail
    refine bodyPost_ret (v := .tuple #[.agg #[.int .i64 5, .int .i64 s1, .int .i64 s2, .bool true], .int .i64 0]) (by simp [results, Tryd.results11, go_sem, ms, mr]; try rfl) rfl ⟨by simp [Hand.stepW], below_r ((MB.out.setCell (by simp only []; omega) _).setCell (by simp only []; omega) _) (by omega) (by omega) (by omega) (by omega) _ _ _ _⟩

set_option maxHeartbeats 8000000 in
set_option maxRecDepth 100000 in
theorem step_6c (c0 : ByteArray) (c1 c2 c3 c4 c5 c6 c7 s0 s1 s2 : Int) (s3 : Bool) (e0 e1 e2 : Int) (w : World) (hG : Hand.G w) (hv : charger_Valid.f c0 c1 c2 c3 c4 c5 c6 c7 s0 s1 s2 s3 = some true) (hi : charger_in.f e0 1 9 = some true) (hf : charger_fits.f c0 c1 c2 c3 c4 c5 c6 c7 e0 e1 e2 = some true)
    (k1 : 1 ≤ e0) (k9 : e0 ≤ 9) (p0 : 0 ≤ s0) (p5 : s0 ≤ 5) (T : Int) (hT : Hid (T = Hand.stepT e0 s0)) (h1 : (T == -1) = false) (hk : Hid (e0 = 6)) (hn : Hid (e1 = 0)) :
    Calls Tryd.prog 11 #[.agg #[.string c0, .int .i64 c1, .int .i64 c2, .int .i64 c3, .int .i64 c4, .int .i64 c5, .int .i64 c6, .int .i64 c7], .agg #[.int .i64 s0, .int .i64 s1, .int .i64 s2, .bool s3], .agg #[.int .i64 e0, .int .i64 e1, .int .i64 e2]] w
      fun e w' => e = .returned (.tuple #[.agg #[.int .i64 (Hand.stepW T s1 s2 s3 e0 e1 e2).1, .int .i64 (Hand.stepW T s1 s2 s3 e0 e1 e2).2.1, .int .i64 (Hand.stepW T s1 s2 s3 e0 e1 e2).2.2.1, .bool (Hand.stepW T s1 s2 s3 e0 e1 e2).2.2.2], .int .i64 0]) ∧ Below w.heap.size w w' := by
  have HI := Aside0.mk hi
  have HF := Aside0.mk hf
  clear hi hf
  have HV := Aside0.mk hv
  clear hv
  go_enter Tryd.func11, Tryd.ntmps11
  go_wp2_with fail
  refine (charger_Valid.calls _ _ _ _ _ _ _ _ _ _ _ _ true _ HV.out).mono ?_
  rintro e w1 ⟨rfl, hb1⟩
  have B1 := (Boxes.start c0 c1 c2 c3 c4 c5 c6 c7 s0 s1 s2 s3 e0 e1 e2 w).below hb1
  clear hb1 HV
  obtain ⟨hc, hs, he, hr, hfs, hfr, hlt, hbe⟩ := id B1
  have HB1 := Aside0.mk B1
  clear B1 hbe
  go_wp2_with fail
  refine (charger_in.calls _ _ _ true _ HI.out).mono ?_
  rintro e w' ⟨rfl, ⟨nd, rfl⟩⟩
  have B2 := HB1.out.below (pw_below_drewN (Below.refl _ _) nd)
  clear HB1 HI hc hs he hr hfs hfr hlt
  obtain ⟨hc, hs, he, hr, hfs, hfr, hlt, hbe⟩ := id B2
  have HB2 := Aside0.mk B2
  clear B2 hbe
  go_wp2_with fail
  refine (charger_fits.calls _ _ _ _ _ _ _ _ _ _ _ true _ HF.out).mono ?_
  rintro e w2 ⟨rfl, hb2⟩
  have B3 := HB2.out.below hb2
  have HB12 := Aside0.mk hb2
  clear hb2 HF hc hs he hr hfs hfr hlt
  obtain ⟨hc, hs, he, hr, hfs, hfr, hlt, hbe⟩ := B3
  have HBE := Aside0.mk hbe
  clear hbe
  have hg : w2.cell? ⟨0, e0.toNat * 6 + s0.toNat, none⟩ = some (.int .i64 T) := by
    have h := (hG.below HBE.out).cells e0.toNat s0.toNat (by omega) (by omega) (by omega)
    rw [Int.toNat_of_nonneg (by omega), Int.toNat_of_nonneg p0] at h
    rw [hT.out]; exact h
  clear HB2 HB12
  have hl1 : w.heap.size + 1 < w2.heap.size := by omega
  have hl2 : w.heap.size + 1 + 1 < w2.heap.size := by omega
  go_wp2_with fail
  go_quiet (fail)
  clear hg hc hT hG
  go_upto_region 13 with (fail)
  obtain ⟨w3, hw3⟩ : ∃ x, x = (((w2.drewN nq).setCell ⟨w.heap.size + 1, 0, none⟩ (.int .i64 T)).alloc (.cells #[.int .i64 e0, .int .i64 e1, .int .i64 0] 27)) := ⟨_, rfl⟩
  rw [← hw3]
  have n0 : ((w2.drewN nq).setCell ⟨w.heap.size + 1, 0, none⟩ (.int .i64 T)).heap.size = w2.heap.size := by simp [World.setCell]
  have ms : ∀ o, w3.cell? ⟨w.heap.size + 1, o, none⟩ = #[Value.int .i64 T, .int .i64 s1, .int .i64 s2, .bool s3][o]? := fun o => by
    rw [hw3, World.cell?_alloc_past _ _ _ (by rw [n0]; exact hl1)]; exact box_set _ _ 0 _ _ hs (by simp) o
  have me : ∀ o, w3.cell? ⟨w.heap.size + 1 + 1, o, none⟩ = #[Value.int .i64 e0, .int .i64 e1, .int .i64 e2][o]? := fun o => by
    rw [hw3, World.cell?_alloc_past _ _ _ (by rw [n0]; exact hl2), World.cell?_setCell_other _ _ _ _ (by simp)]; exact he o
  have mr : ∀ o, w3.cell? ⟨w.heap.size + 1 + 1 + 1, o, none⟩ = #[Value.int .i64 0, .int .i64 0, .int .i64 0, .bool false][o]? := fun o => by
    rw [hw3, World.cell?_alloc_past _ _ _ (by rw [n0]; exact hlt), World.cell?_setCell_other _ _ _ _ (by simp)]; exact hr o
  have mf : ∀ o, w3.cell? ⟨w2.heap.size, o, none⟩ = #[Value.int .i64 e0, .int .i64 e1, .int .i64 0][o]? := fun o => by
    rw [hw3, ← n0]; exact World.cell?_alloc_new _ _ _ _
  have mfs : ∀ o, w3.frozen? ⟨w.heap.size + 1, o, none⟩ = false := fun o => by rw [hw3, frozen?_alloc_cells, World.frozen?_setCell]; exact hfs o
  have mfr : ∀ o, w3.frozen? ⟨w.heap.size + 1 + 1 + 1, o, none⟩ = false := fun o => by rw [hw3, frozen?_alloc_cells, World.frozen?_setCell]; exact hfr o
  have MB : Aside0 (Below w.heap.size w w3) := Aside0.mk (by rw [hw3]; exact ((pw_below_drewN HBE.out _).setCell (by simp only []; omega) _).alloc (by rw [n0]; omega) _)
  clear hw3 n0 hs he hr hfs hfr HBE
  obtain rfl := hk.out
  obtain rfl := hn.out
  clear k1 k9 hk hn
  cases s3 with
  | false =>
    go_wp2_with fail
    refine bodyPost_ret (v := .tuple #[.agg #[.int .i64 T, .int .i64 s1, .int .i64 s2, .bool false], .int .i64 0]) (by simp [results, Tryd.results11, go_sem, ms, mr]; try rfl) rfl ⟨by simp [Hand.stepW], below_r MB.out (by omega) (by omega) (by omega) (by omega) _ _ _ _⟩
  | true =>
    go_wp2_with fail
    refine bodyPost_ret (v := .tuple #[.agg #[.int .i64 5, .int .i64 s1, .int .i64 s2, .bool true], .int .i64 0]) (by simp [results, Tryd.results11, go_sem, ms, mr]; try rfl) rfl ⟨by simp [Hand.stepW], below_r (MB.out.setCell (by simp only []; omega) _) (by omega) (by omega) (by omega) (by omega) _ _ _ _⟩

set_option maxHeartbeats 8000000 in
set_option maxRecDepth 100000 in
theorem step_4a (c0 : ByteArray) (c1 c2 c3 c4 c5 c6 c7 s0 s1 s2 : Int) (s3 : Bool) (e0 e1 e2 : Int) (w : World) (hG : Hand.G w) (hv : charger_Valid.f c0 c1 c2 c3 c4 c5 c6 c7 s0 s1 s2 s3 = some true) (hi : charger_in.f e0 1 9 = some true) (hf : charger_fits.f c0 c1 c2 c3 c4 c5 c6 c7 e0 e1 e2 = some true)
    (k1 : 1 ≤ e0) (k9 : e0 ≤ 9) (p0 : 0 ≤ s0) (p5 : s0 ≤ 5) (T : Int) (hT : Hid (T = Hand.stepT e0 s0)) (h1 : (T == -1) = false) (hk : Hid (e0 = 4)) (hn : Hid (e1 = 0)) :
    Calls Tryd.prog 11 #[.agg #[.string c0, .int .i64 c1, .int .i64 c2, .int .i64 c3, .int .i64 c4, .int .i64 c5, .int .i64 c6, .int .i64 c7], .agg #[.int .i64 s0, .int .i64 s1, .int .i64 s2, .bool s3], .agg #[.int .i64 e0, .int .i64 e1, .int .i64 e2]] w
      fun e w' => e = .returned (.tuple #[.agg #[.int .i64 (Hand.stepW T s1 s2 s3 e0 e1 e2).1, .int .i64 (Hand.stepW T s1 s2 s3 e0 e1 e2).2.1, .int .i64 (Hand.stepW T s1 s2 s3 e0 e1 e2).2.2.1, .bool (Hand.stepW T s1 s2 s3 e0 e1 e2).2.2.2], .int .i64 0]) ∧ Below w.heap.size w w' := by
  have HI := Aside0.mk hi
  have HF := Aside0.mk hf
  clear hi hf
  have HV := Aside0.mk hv
  clear hv
  go_enter Tryd.func11, Tryd.ntmps11
  go_wp2_with fail
  refine (charger_Valid.calls _ _ _ _ _ _ _ _ _ _ _ _ true _ HV.out).mono ?_
  rintro e w1 ⟨rfl, hb1⟩
  have B1 := (Boxes.start c0 c1 c2 c3 c4 c5 c6 c7 s0 s1 s2 s3 e0 e1 e2 w).below hb1
  clear hb1 HV
  obtain ⟨hc, hs, he, hr, hfs, hfr, hlt, hbe⟩ := id B1
  have HB1 := Aside0.mk B1
  clear B1 hbe
  go_wp2_with fail
  refine (charger_in.calls _ _ _ true _ HI.out).mono ?_
  rintro e w' ⟨rfl, ⟨nd, rfl⟩⟩
  have B2 := HB1.out.below (pw_below_drewN (Below.refl _ _) nd)
  clear HB1 HI hc hs he hr hfs hfr hlt
  obtain ⟨hc, hs, he, hr, hfs, hfr, hlt, hbe⟩ := id B2
  have HB2 := Aside0.mk B2
  clear B2 hbe
  go_wp2_with fail
  refine (charger_fits.calls _ _ _ _ _ _ _ _ _ _ _ true _ HF.out).mono ?_
  rintro e w2 ⟨rfl, hb2⟩
  have B3 := HB2.out.below hb2
  have HB12 := Aside0.mk hb2
  clear hb2 HF hc hs he hr hfs hfr hlt
  obtain ⟨hc, hs, he, hr, hfs, hfr, hlt, hbe⟩ := B3
  have HBE := Aside0.mk hbe
  clear hbe
  have hg : w2.cell? ⟨0, e0.toNat * 6 + s0.toNat, none⟩ = some (.int .i64 T) := by
    have h := (hG.below HBE.out).cells e0.toNat s0.toNat (by omega) (by omega) (by omega)
    rw [Int.toNat_of_nonneg (by omega), Int.toNat_of_nonneg p0] at h
    rw [hT.out]; exact h
  clear HB2 HB12
  have hl1 : w.heap.size + 1 < w2.heap.size := by omega
  have hl2 : w.heap.size + 1 + 1 < w2.heap.size := by omega
  go_wp2_with fail
  go_quiet (fail)
  clear hg hc hT hG
  go_upto_region 13 with (fail)
  obtain ⟨w3, hw3⟩ : ∃ x, x = (((w2.drewN nq).setCell ⟨w.heap.size + 1, 0, none⟩ (.int .i64 T)).alloc (.cells #[.int .i64 e0, .int .i64 e1, .int .i64 0] 27)) := ⟨_, rfl⟩
  rw [← hw3]
  have n0 : ((w2.drewN nq).setCell ⟨w.heap.size + 1, 0, none⟩ (.int .i64 T)).heap.size = w2.heap.size := by simp [World.setCell]
  have ms : ∀ o, w3.cell? ⟨w.heap.size + 1, o, none⟩ = #[Value.int .i64 T, .int .i64 s1, .int .i64 s2, .bool s3][o]? := fun o => by
    rw [hw3, World.cell?_alloc_past _ _ _ (by rw [n0]; exact hl1)]; exact box_set _ _ 0 _ _ hs (by simp) o
  have me : ∀ o, w3.cell? ⟨w.heap.size + 1 + 1, o, none⟩ = #[Value.int .i64 e0, .int .i64 e1, .int .i64 e2][o]? := fun o => by
    rw [hw3, World.cell?_alloc_past _ _ _ (by rw [n0]; exact hl2), World.cell?_setCell_other _ _ _ _ (by simp)]; exact he o
  have mr : ∀ o, w3.cell? ⟨w.heap.size + 1 + 1 + 1, o, none⟩ = #[Value.int .i64 0, .int .i64 0, .int .i64 0, .bool false][o]? := fun o => by
    rw [hw3, World.cell?_alloc_past _ _ _ (by rw [n0]; exact hlt), World.cell?_setCell_other _ _ _ _ (by simp)]; exact hr o
  have mf : ∀ o, w3.cell? ⟨w2.heap.size, o, none⟩ = #[Value.int .i64 e0, .int .i64 e1, .int .i64 0][o]? := fun o => by
    rw [hw3, ← n0]; exact World.cell?_alloc_new _ _ _ _
  have mfs : ∀ o, w3.frozen? ⟨w.heap.size + 1, o, none⟩ = false := fun o => by rw [hw3, frozen?_alloc_cells, World.frozen?_setCell]; exact hfs o
  have mfr : ∀ o, w3.frozen? ⟨w.heap.size + 1 + 1 + 1, o, none⟩ = false := fun o => by rw [hw3, frozen?_alloc_cells, World.frozen?_setCell]; exact hfr o
  have MB : Aside0 (Below w.heap.size w w3) := Aside0.mk (by rw [hw3]; exact ((pw_below_drewN HBE.out _).setCell (by simp only []; omega) _).alloc (by rw [n0]; omega) _)
  clear hw3 n0 hs he hr hfs hfr HBE
  obtain rfl := hk.out
  obtain rfl := hn.out
  clear k1 k9 hk hn
  cases s3 with
  | false =>
    go_wp2_with fail
    refine bodyPost_ret (v := .tuple #[.agg #[.int .i64 5, .int .i64 s1, .int .i64 s2, .bool false], .int .i64 0]) (by simp [results, Tryd.results11, go_sem, ms, mr]; try rfl) rfl ⟨by simp [Hand.stepW], below_r (MB.out.setCell (by simp only []; omega) _) (by omega) (by omega) (by omega) (by omega) _ _ _ _⟩
  | true =>
    go_wp2_with fail
    refine bodyPost_ret (v := .tuple #[.agg #[.int .i64 5, .int .i64 s1, .int .i64 s2, .bool true], .int .i64 0]) (by simp [results, Tryd.results11, go_sem, ms, mr]; try rfl) rfl ⟨by simp [Hand.stepW], below_r ((MB.out.setCell (by simp only []; omega) _).setCell (by simp only []; omega) _) (by omega) (by omega) (by omega) (by omega) _ _ _ _⟩

set_option maxHeartbeats 8000000 in
set_option maxRecDepth 100000 in
theorem step_4b (c0 : ByteArray) (c1 c2 c3 c4 c5 c6 c7 s0 s1 s2 : Int) (s3 : Bool) (e0 e1 e2 : Int) (w : World) (hG : Hand.G w) (hv : charger_Valid.f c0 c1 c2 c3 c4 c5 c6 c7 s0 s1 s2 s3 = some true) (hi : charger_in.f e0 1 9 = some true) (hf : charger_fits.f c0 c1 c2 c3 c4 c5 c6 c7 e0 e1 e2 = some true)
    (k1 : 1 ≤ e0) (k9 : e0 ≤ 9) (p0 : 0 ≤ s0) (p5 : s0 ≤ 5) (T : Int) (hT : Hid (T = Hand.stepT e0 s0)) (h1 : (T == -1) = false) (hk : Hid (e0 = 4)) (hn : Hid (e1 = 1)) :
    Calls Tryd.prog 11 #[.agg #[.string c0, .int .i64 c1, .int .i64 c2, .int .i64 c3, .int .i64 c4, .int .i64 c5, .int .i64 c6, .int .i64 c7], .agg #[.int .i64 s0, .int .i64 s1, .int .i64 s2, .bool s3], .agg #[.int .i64 e0, .int .i64 e1, .int .i64 e2]] w
      fun e w' => e = .returned (.tuple #[.agg #[.int .i64 (Hand.stepW T s1 s2 s3 e0 e1 e2).1, .int .i64 (Hand.stepW T s1 s2 s3 e0 e1 e2).2.1, .int .i64 (Hand.stepW T s1 s2 s3 e0 e1 e2).2.2.1, .bool (Hand.stepW T s1 s2 s3 e0 e1 e2).2.2.2], .int .i64 0]) ∧ Below w.heap.size w w' := by
  have HI := Aside0.mk hi
  have HF := Aside0.mk hf
  clear hi hf
  have HV := Aside0.mk hv
  clear hv
  go_enter Tryd.func11, Tryd.ntmps11
  go_wp2_with fail
  refine (charger_Valid.calls _ _ _ _ _ _ _ _ _ _ _ _ true _ HV.out).mono ?_
  rintro e w1 ⟨rfl, hb1⟩
  have B1 := (Boxes.start c0 c1 c2 c3 c4 c5 c6 c7 s0 s1 s2 s3 e0 e1 e2 w).below hb1
  clear hb1 HV
  obtain ⟨hc, hs, he, hr, hfs, hfr, hlt, hbe⟩ := id B1
  have HB1 := Aside0.mk B1
  clear B1 hbe
  go_wp2_with fail
  refine (charger_in.calls _ _ _ true _ HI.out).mono ?_
  rintro e w' ⟨rfl, ⟨nd, rfl⟩⟩
  have B2 := HB1.out.below (pw_below_drewN (Below.refl _ _) nd)
  clear HB1 HI hc hs he hr hfs hfr hlt
  obtain ⟨hc, hs, he, hr, hfs, hfr, hlt, hbe⟩ := id B2
  have HB2 := Aside0.mk B2
  clear B2 hbe
  go_wp2_with fail
  refine (charger_fits.calls _ _ _ _ _ _ _ _ _ _ _ true _ HF.out).mono ?_
  rintro e w2 ⟨rfl, hb2⟩
  have B3 := HB2.out.below hb2
  have HB12 := Aside0.mk hb2
  clear hb2 HF hc hs he hr hfs hfr hlt
  obtain ⟨hc, hs, he, hr, hfs, hfr, hlt, hbe⟩ := B3
  have HBE := Aside0.mk hbe
  clear hbe
  have hg : w2.cell? ⟨0, e0.toNat * 6 + s0.toNat, none⟩ = some (.int .i64 T) := by
    have h := (hG.below HBE.out).cells e0.toNat s0.toNat (by omega) (by omega) (by omega)
    rw [Int.toNat_of_nonneg (by omega), Int.toNat_of_nonneg p0] at h
    rw [hT.out]; exact h
  clear HB2 HB12
  have hl1 : w.heap.size + 1 < w2.heap.size := by omega
  have hl2 : w.heap.size + 1 + 1 < w2.heap.size := by omega
  go_wp2_with fail
  go_quiet (fail)
  clear hg hc hT hG
  go_upto_region 13 with (fail)
  obtain ⟨w3, hw3⟩ : ∃ x, x = (((w2.drewN nq).setCell ⟨w.heap.size + 1, 0, none⟩ (.int .i64 T)).alloc (.cells #[.int .i64 e0, .int .i64 e1, .int .i64 0] 27)) := ⟨_, rfl⟩
  rw [← hw3]
  have n0 : ((w2.drewN nq).setCell ⟨w.heap.size + 1, 0, none⟩ (.int .i64 T)).heap.size = w2.heap.size := by simp [World.setCell]
  have ms : ∀ o, w3.cell? ⟨w.heap.size + 1, o, none⟩ = #[Value.int .i64 T, .int .i64 s1, .int .i64 s2, .bool s3][o]? := fun o => by
    rw [hw3, World.cell?_alloc_past _ _ _ (by rw [n0]; exact hl1)]; exact box_set _ _ 0 _ _ hs (by simp) o
  have me : ∀ o, w3.cell? ⟨w.heap.size + 1 + 1, o, none⟩ = #[Value.int .i64 e0, .int .i64 e1, .int .i64 e2][o]? := fun o => by
    rw [hw3, World.cell?_alloc_past _ _ _ (by rw [n0]; exact hl2), World.cell?_setCell_other _ _ _ _ (by simp)]; exact he o
  have mr : ∀ o, w3.cell? ⟨w.heap.size + 1 + 1 + 1, o, none⟩ = #[Value.int .i64 0, .int .i64 0, .int .i64 0, .bool false][o]? := fun o => by
    rw [hw3, World.cell?_alloc_past _ _ _ (by rw [n0]; exact hlt), World.cell?_setCell_other _ _ _ _ (by simp)]; exact hr o
  have mf : ∀ o, w3.cell? ⟨w2.heap.size, o, none⟩ = #[Value.int .i64 e0, .int .i64 e1, .int .i64 0][o]? := fun o => by
    rw [hw3, ← n0]; exact World.cell?_alloc_new _ _ _ _
  have mfs : ∀ o, w3.frozen? ⟨w.heap.size + 1, o, none⟩ = false := fun o => by rw [hw3, frozen?_alloc_cells, World.frozen?_setCell]; exact hfs o
  have mfr : ∀ o, w3.frozen? ⟨w.heap.size + 1 + 1 + 1, o, none⟩ = false := fun o => by rw [hw3, frozen?_alloc_cells, World.frozen?_setCell]; exact hfr o
  have MB : Aside0 (Below w.heap.size w w3) := Aside0.mk (by rw [hw3]; exact ((pw_below_drewN HBE.out _).setCell (by simp only []; omega) _).alloc (by rw [n0]; omega) _)
  clear hw3 n0 hs he hr hfs hfr HBE
  obtain rfl := hk.out
  obtain rfl := hn.out
  clear k1 k9 hk hn
  cases s3 with
  | false =>
    go_wp2_with fail
    refine bodyPost_ret (v := .tuple #[.agg #[.int .i64 T, .int .i64 s1, .int .i64 s2, .bool false], .int .i64 0]) (by simp [results, Tryd.results11, go_sem, ms, mr]; try rfl) rfl ⟨by simp [Hand.stepW], below_r MB.out (by omega) (by omega) (by omega) (by omega) _ _ _ _⟩
  | true =>
    go_wp2_with fail
    refine bodyPost_ret (v := .tuple #[.agg #[.int .i64 5, .int .i64 s1, .int .i64 s2, .bool true], .int .i64 0]) (by simp [results, Tryd.results11, go_sem, ms, mr]; try rfl) rfl ⟨by simp [Hand.stepW], below_r (MB.out.setCell (by simp only []; omega) _) (by omega) (by omega) (by omega) (by omega) _ _ _ _⟩

set_option maxHeartbeats 8000000 in
set_option maxRecDepth 100000 in
theorem step_p1 (c0 : ByteArray) (c1 c2 c3 c4 c5 c6 c7 s0 s1 s2 : Int) (s3 : Bool) (e0 e1 e2 : Int) (w : World) (hG : Hand.G w) (hv : charger_Valid.f c0 c1 c2 c3 c4 c5 c6 c7 s0 s1 s2 s3 = some true) (hi : charger_in.f e0 1 9 = some true) (hf : charger_fits.f c0 c1 c2 c3 c4 c5 c6 c7 e0 e1 e2 = some true)
    (k1 : 1 ≤ e0) (k9 : e0 ≤ 9) (p0 : 0 ≤ s0) (p5 : s0 ≤ 5) (T : Int) (hT : Hid (T = Hand.stepT e0 s0)) (h1 : (T == -1) = false) (hk : Hid (e0 = 1)) :
    Calls Tryd.prog 11 #[.agg #[.string c0, .int .i64 c1, .int .i64 c2, .int .i64 c3, .int .i64 c4, .int .i64 c5, .int .i64 c6, .int .i64 c7], .agg #[.int .i64 s0, .int .i64 s1, .int .i64 s2, .bool s3], .agg #[.int .i64 e0, .int .i64 e1, .int .i64 e2]] w
      fun e w' => e = .returned (.tuple #[.agg #[.int .i64 (Hand.stepW T s1 s2 s3 e0 e1 e2).1, .int .i64 (Hand.stepW T s1 s2 s3 e0 e1 e2).2.1, .int .i64 (Hand.stepW T s1 s2 s3 e0 e1 e2).2.2.1, .bool (Hand.stepW T s1 s2 s3 e0 e1 e2).2.2.2], .int .i64 0]) ∧ Below w.heap.size w w' := by
  have HI := Aside0.mk hi
  have HF := Aside0.mk hf
  clear hi hf
  have HV := Aside0.mk hv
  clear hv
  go_enter Tryd.func11, Tryd.ntmps11
  go_wp2_with fail
  refine (charger_Valid.calls _ _ _ _ _ _ _ _ _ _ _ _ true _ HV.out).mono ?_
  rintro e w1 ⟨rfl, hb1⟩
  have B1 := (Boxes.start c0 c1 c2 c3 c4 c5 c6 c7 s0 s1 s2 s3 e0 e1 e2 w).below hb1
  clear hb1 HV
  obtain ⟨hc, hs, he, hr, hfs, hfr, hlt, hbe⟩ := id B1
  have HB1 := Aside0.mk B1
  clear B1 hbe
  go_wp2_with fail
  refine (charger_in.calls _ _ _ true _ HI.out).mono ?_
  rintro e w' ⟨rfl, ⟨nd, rfl⟩⟩
  have B2 := HB1.out.below (pw_below_drewN (Below.refl _ _) nd)
  clear HB1 HI hc hs he hr hfs hfr hlt
  obtain ⟨hc, hs, he, hr, hfs, hfr, hlt, hbe⟩ := id B2
  have HB2 := Aside0.mk B2
  clear B2 hbe
  go_wp2_with fail
  refine (charger_fits.calls _ _ _ _ _ _ _ _ _ _ _ true _ HF.out).mono ?_
  rintro e w2 ⟨rfl, hb2⟩
  have B3 := HB2.out.below hb2
  have HB12 := Aside0.mk hb2
  clear hb2 HF hc hs he hr hfs hfr hlt
  obtain ⟨hc, hs, he, hr, hfs, hfr, hlt, hbe⟩ := B3
  have HBE := Aside0.mk hbe
  clear hbe
  have hg : w2.cell? ⟨0, e0.toNat * 6 + s0.toNat, none⟩ = some (.int .i64 T) := by
    have h := (hG.below HBE.out).cells e0.toNat s0.toNat (by omega) (by omega) (by omega)
    rw [Int.toNat_of_nonneg (by omega), Int.toNat_of_nonneg p0] at h
    rw [hT.out]; exact h
  clear HB2 HB12
  have hl1 : w.heap.size + 1 < w2.heap.size := by omega
  have hl2 : w.heap.size + 1 + 1 < w2.heap.size := by omega
  go_wp2_with fail
  go_quiet (fail)
  clear hg hc hT hG
  go_upto_region 13 with (fail)
  obtain ⟨w3, hw3⟩ : ∃ x, x = (((w2.drewN nq).setCell ⟨w.heap.size + 1, 0, none⟩ (.int .i64 T)).alloc (.cells #[.int .i64 e0, .int .i64 e1, .int .i64 0] 27)) := ⟨_, rfl⟩
  rw [← hw3]
  have n0 : ((w2.drewN nq).setCell ⟨w.heap.size + 1, 0, none⟩ (.int .i64 T)).heap.size = w2.heap.size := by simp [World.setCell]
  have ms : ∀ o, w3.cell? ⟨w.heap.size + 1, o, none⟩ = #[Value.int .i64 T, .int .i64 s1, .int .i64 s2, .bool s3][o]? := fun o => by
    rw [hw3, World.cell?_alloc_past _ _ _ (by rw [n0]; exact hl1)]; exact box_set _ _ 0 _ _ hs (by simp) o
  have me : ∀ o, w3.cell? ⟨w.heap.size + 1 + 1, o, none⟩ = #[Value.int .i64 e0, .int .i64 e1, .int .i64 e2][o]? := fun o => by
    rw [hw3, World.cell?_alloc_past _ _ _ (by rw [n0]; exact hl2), World.cell?_setCell_other _ _ _ _ (by simp)]; exact he o
  have mr : ∀ o, w3.cell? ⟨w.heap.size + 1 + 1 + 1, o, none⟩ = #[Value.int .i64 0, .int .i64 0, .int .i64 0, .bool false][o]? := fun o => by
    rw [hw3, World.cell?_alloc_past _ _ _ (by rw [n0]; exact hlt), World.cell?_setCell_other _ _ _ _ (by simp)]; exact hr o
  have mf : ∀ o, w3.cell? ⟨w2.heap.size, o, none⟩ = #[Value.int .i64 e0, .int .i64 e1, .int .i64 0][o]? := fun o => by
    rw [hw3, ← n0]; exact World.cell?_alloc_new _ _ _ _
  have mfs : ∀ o, w3.frozen? ⟨w.heap.size + 1, o, none⟩ = false := fun o => by rw [hw3, frozen?_alloc_cells, World.frozen?_setCell]; exact hfs o
  have mfr : ∀ o, w3.frozen? ⟨w.heap.size + 1 + 1 + 1, o, none⟩ = false := fun o => by rw [hw3, frozen?_alloc_cells, World.frozen?_setCell]; exact hfr o
  have MB : Aside0 (Below w.heap.size w w3) := Aside0.mk (by rw [hw3]; exact ((pw_below_drewN HBE.out _).setCell (by simp only []; omega) _).alloc (by rw [n0]; omega) _)
  clear hw3 n0 hs he hr hfs hfr HBE
  obtain rfl := hk.out
  clear k1 k9 hk
  cases s3 with
  | false =>
    go_wp2_with fail
    refine bodyPost_ret (v := .tuple #[.agg #[.int .i64 T, .int .i64 s1, .int .i64 s2, .bool false], .int .i64 0]) (by simp [results, Tryd.results11, go_sem, ms, mr]; try rfl) rfl ⟨by simp [Hand.stepW], below_r MB.out (by omega) (by omega) (by omega) (by omega) _ _ _ _⟩
  | true =>
    go_wp2_with fail
    refine bodyPost_ret (v := .tuple #[.agg #[.int .i64 5, .int .i64 s1, .int .i64 s2, .bool true], .int .i64 0]) (by simp [results, Tryd.results11, go_sem, ms, mr]; try rfl) rfl ⟨by simp [Hand.stepW], below_r (MB.out.setCell (by simp only []; omega) _) (by omega) (by omega) (by omega) (by omega) _ _ _ _⟩

set_option maxHeartbeats 8000000 in
set_option maxRecDepth 100000 in
theorem step_p2 (c0 : ByteArray) (c1 c2 c3 c4 c5 c6 c7 s0 s1 s2 : Int) (s3 : Bool) (e0 e1 e2 : Int) (w : World) (hG : Hand.G w) (hv : charger_Valid.f c0 c1 c2 c3 c4 c5 c6 c7 s0 s1 s2 s3 = some true) (hi : charger_in.f e0 1 9 = some true) (hf : charger_fits.f c0 c1 c2 c3 c4 c5 c6 c7 e0 e1 e2 = some true)
    (k1 : 1 ≤ e0) (k9 : e0 ≤ 9) (p0 : 0 ≤ s0) (p5 : s0 ≤ 5) (T : Int) (hT : Hid (T = Hand.stepT e0 s0)) (h1 : (T == -1) = false) (hk : Hid (e0 = 2)) :
    Calls Tryd.prog 11 #[.agg #[.string c0, .int .i64 c1, .int .i64 c2, .int .i64 c3, .int .i64 c4, .int .i64 c5, .int .i64 c6, .int .i64 c7], .agg #[.int .i64 s0, .int .i64 s1, .int .i64 s2, .bool s3], .agg #[.int .i64 e0, .int .i64 e1, .int .i64 e2]] w
      fun e w' => e = .returned (.tuple #[.agg #[.int .i64 (Hand.stepW T s1 s2 s3 e0 e1 e2).1, .int .i64 (Hand.stepW T s1 s2 s3 e0 e1 e2).2.1, .int .i64 (Hand.stepW T s1 s2 s3 e0 e1 e2).2.2.1, .bool (Hand.stepW T s1 s2 s3 e0 e1 e2).2.2.2], .int .i64 0]) ∧ Below w.heap.size w w' := by
  have HI := Aside0.mk hi
  have HF := Aside0.mk hf
  clear hi hf
  have HV := Aside0.mk hv
  clear hv
  go_enter Tryd.func11, Tryd.ntmps11
  go_wp2_with fail
  refine (charger_Valid.calls _ _ _ _ _ _ _ _ _ _ _ _ true _ HV.out).mono ?_
  rintro e w1 ⟨rfl, hb1⟩
  have B1 := (Boxes.start c0 c1 c2 c3 c4 c5 c6 c7 s0 s1 s2 s3 e0 e1 e2 w).below hb1
  clear hb1 HV
  obtain ⟨hc, hs, he, hr, hfs, hfr, hlt, hbe⟩ := id B1
  have HB1 := Aside0.mk B1
  clear B1 hbe
  go_wp2_with fail
  refine (charger_in.calls _ _ _ true _ HI.out).mono ?_
  rintro e w' ⟨rfl, ⟨nd, rfl⟩⟩
  have B2 := HB1.out.below (pw_below_drewN (Below.refl _ _) nd)
  clear HB1 HI hc hs he hr hfs hfr hlt
  obtain ⟨hc, hs, he, hr, hfs, hfr, hlt, hbe⟩ := id B2
  have HB2 := Aside0.mk B2
  clear B2 hbe
  go_wp2_with fail
  refine (charger_fits.calls _ _ _ _ _ _ _ _ _ _ _ true _ HF.out).mono ?_
  rintro e w2 ⟨rfl, hb2⟩
  have B3 := HB2.out.below hb2
  have HB12 := Aside0.mk hb2
  clear hb2 HF hc hs he hr hfs hfr hlt
  obtain ⟨hc, hs, he, hr, hfs, hfr, hlt, hbe⟩ := B3
  have HBE := Aside0.mk hbe
  clear hbe
  have hg : w2.cell? ⟨0, e0.toNat * 6 + s0.toNat, none⟩ = some (.int .i64 T) := by
    have h := (hG.below HBE.out).cells e0.toNat s0.toNat (by omega) (by omega) (by omega)
    rw [Int.toNat_of_nonneg (by omega), Int.toNat_of_nonneg p0] at h
    rw [hT.out]; exact h
  clear HB2 HB12
  have hl1 : w.heap.size + 1 < w2.heap.size := by omega
  have hl2 : w.heap.size + 1 + 1 < w2.heap.size := by omega
  go_wp2_with fail
  go_quiet (fail)
  clear hg hc hT hG
  go_upto_region 13 with (fail)
  obtain ⟨w3, hw3⟩ : ∃ x, x = (((w2.drewN nq).setCell ⟨w.heap.size + 1, 0, none⟩ (.int .i64 T)).alloc (.cells #[.int .i64 e0, .int .i64 e1, .int .i64 0] 27)) := ⟨_, rfl⟩
  rw [← hw3]
  have n0 : ((w2.drewN nq).setCell ⟨w.heap.size + 1, 0, none⟩ (.int .i64 T)).heap.size = w2.heap.size := by simp [World.setCell]
  have ms : ∀ o, w3.cell? ⟨w.heap.size + 1, o, none⟩ = #[Value.int .i64 T, .int .i64 s1, .int .i64 s2, .bool s3][o]? := fun o => by
    rw [hw3, World.cell?_alloc_past _ _ _ (by rw [n0]; exact hl1)]; exact box_set _ _ 0 _ _ hs (by simp) o
  have me : ∀ o, w3.cell? ⟨w.heap.size + 1 + 1, o, none⟩ = #[Value.int .i64 e0, .int .i64 e1, .int .i64 e2][o]? := fun o => by
    rw [hw3, World.cell?_alloc_past _ _ _ (by rw [n0]; exact hl2), World.cell?_setCell_other _ _ _ _ (by simp)]; exact he o
  have mr : ∀ o, w3.cell? ⟨w.heap.size + 1 + 1 + 1, o, none⟩ = #[Value.int .i64 0, .int .i64 0, .int .i64 0, .bool false][o]? := fun o => by
    rw [hw3, World.cell?_alloc_past _ _ _ (by rw [n0]; exact hlt), World.cell?_setCell_other _ _ _ _ (by simp)]; exact hr o
  have mf : ∀ o, w3.cell? ⟨w2.heap.size, o, none⟩ = #[Value.int .i64 e0, .int .i64 e1, .int .i64 0][o]? := fun o => by
    rw [hw3, ← n0]; exact World.cell?_alloc_new _ _ _ _
  have mfs : ∀ o, w3.frozen? ⟨w.heap.size + 1, o, none⟩ = false := fun o => by rw [hw3, frozen?_alloc_cells, World.frozen?_setCell]; exact hfs o
  have mfr : ∀ o, w3.frozen? ⟨w.heap.size + 1 + 1 + 1, o, none⟩ = false := fun o => by rw [hw3, frozen?_alloc_cells, World.frozen?_setCell]; exact hfr o
  have MB : Aside0 (Below w.heap.size w w3) := Aside0.mk (by rw [hw3]; exact ((pw_below_drewN HBE.out _).setCell (by simp only []; omega) _).alloc (by rw [n0]; omega) _)
  clear hw3 n0 hs he hr hfs hfr HBE
  obtain rfl := hk.out
  clear k1 k9 hk
  cases s3 with
  | false =>
    go_wp2_with fail
    refine bodyPost_ret (v := .tuple #[.agg #[.int .i64 T, .int .i64 s1, .int .i64 s2, .bool false], .int .i64 0]) (by simp [results, Tryd.results11, go_sem, ms, mr]; try rfl) rfl ⟨by simp [Hand.stepW], below_r MB.out (by omega) (by omega) (by omega) (by omega) _ _ _ _⟩
  | true =>
    go_wp2_with fail
    refine bodyPost_ret (v := .tuple #[.agg #[.int .i64 5, .int .i64 s1, .int .i64 s2, .bool true], .int .i64 0]) (by simp [results, Tryd.results11, go_sem, ms, mr]; try rfl) rfl ⟨by simp [Hand.stepW], below_r (MB.out.setCell (by simp only []; omega) _) (by omega) (by omega) (by omega) (by omega) _ _ _ _⟩

set_option maxHeartbeats 8000000 in
set_option maxRecDepth 100000 in
theorem step_p3 (c0 : ByteArray) (c1 c2 c3 c4 c5 c6 c7 s0 s1 s2 : Int) (s3 : Bool) (e0 e1 e2 : Int) (w : World) (hG : Hand.G w) (hv : charger_Valid.f c0 c1 c2 c3 c4 c5 c6 c7 s0 s1 s2 s3 = some true) (hi : charger_in.f e0 1 9 = some true) (hf : charger_fits.f c0 c1 c2 c3 c4 c5 c6 c7 e0 e1 e2 = some true)
    (k1 : 1 ≤ e0) (k9 : e0 ≤ 9) (p0 : 0 ≤ s0) (p5 : s0 ≤ 5) (T : Int) (hT : Hid (T = Hand.stepT e0 s0)) (h1 : (T == -1) = false) (hk : Hid (e0 = 3)) :
    Calls Tryd.prog 11 #[.agg #[.string c0, .int .i64 c1, .int .i64 c2, .int .i64 c3, .int .i64 c4, .int .i64 c5, .int .i64 c6, .int .i64 c7], .agg #[.int .i64 s0, .int .i64 s1, .int .i64 s2, .bool s3], .agg #[.int .i64 e0, .int .i64 e1, .int .i64 e2]] w
      fun e w' => e = .returned (.tuple #[.agg #[.int .i64 (Hand.stepW T s1 s2 s3 e0 e1 e2).1, .int .i64 (Hand.stepW T s1 s2 s3 e0 e1 e2).2.1, .int .i64 (Hand.stepW T s1 s2 s3 e0 e1 e2).2.2.1, .bool (Hand.stepW T s1 s2 s3 e0 e1 e2).2.2.2], .int .i64 0]) ∧ Below w.heap.size w w' := by
  have HI := Aside0.mk hi
  have HF := Aside0.mk hf
  clear hi hf
  have HV := Aside0.mk hv
  clear hv
  go_enter Tryd.func11, Tryd.ntmps11
  go_wp2_with fail
  refine (charger_Valid.calls _ _ _ _ _ _ _ _ _ _ _ _ true _ HV.out).mono ?_
  rintro e w1 ⟨rfl, hb1⟩
  have B1 := (Boxes.start c0 c1 c2 c3 c4 c5 c6 c7 s0 s1 s2 s3 e0 e1 e2 w).below hb1
  clear hb1 HV
  obtain ⟨hc, hs, he, hr, hfs, hfr, hlt, hbe⟩ := id B1
  have HB1 := Aside0.mk B1
  clear B1 hbe
  go_wp2_with fail
  refine (charger_in.calls _ _ _ true _ HI.out).mono ?_
  rintro e w' ⟨rfl, ⟨nd, rfl⟩⟩
  have B2 := HB1.out.below (pw_below_drewN (Below.refl _ _) nd)
  clear HB1 HI hc hs he hr hfs hfr hlt
  obtain ⟨hc, hs, he, hr, hfs, hfr, hlt, hbe⟩ := id B2
  have HB2 := Aside0.mk B2
  clear B2 hbe
  go_wp2_with fail
  refine (charger_fits.calls _ _ _ _ _ _ _ _ _ _ _ true _ HF.out).mono ?_
  rintro e w2 ⟨rfl, hb2⟩
  have B3 := HB2.out.below hb2
  have HB12 := Aside0.mk hb2
  clear hb2 HF hc hs he hr hfs hfr hlt
  obtain ⟨hc, hs, he, hr, hfs, hfr, hlt, hbe⟩ := B3
  have HBE := Aside0.mk hbe
  clear hbe
  have hg : w2.cell? ⟨0, e0.toNat * 6 + s0.toNat, none⟩ = some (.int .i64 T) := by
    have h := (hG.below HBE.out).cells e0.toNat s0.toNat (by omega) (by omega) (by omega)
    rw [Int.toNat_of_nonneg (by omega), Int.toNat_of_nonneg p0] at h
    rw [hT.out]; exact h
  clear HB2 HB12
  have hl1 : w.heap.size + 1 < w2.heap.size := by omega
  have hl2 : w.heap.size + 1 + 1 < w2.heap.size := by omega
  go_wp2_with fail
  go_quiet (fail)
  clear hg hc hT hG
  go_upto_region 13 with (fail)
  obtain ⟨w3, hw3⟩ : ∃ x, x = (((w2.drewN nq).setCell ⟨w.heap.size + 1, 0, none⟩ (.int .i64 T)).alloc (.cells #[.int .i64 e0, .int .i64 e1, .int .i64 0] 27)) := ⟨_, rfl⟩
  rw [← hw3]
  have n0 : ((w2.drewN nq).setCell ⟨w.heap.size + 1, 0, none⟩ (.int .i64 T)).heap.size = w2.heap.size := by simp [World.setCell]
  have ms : ∀ o, w3.cell? ⟨w.heap.size + 1, o, none⟩ = #[Value.int .i64 T, .int .i64 s1, .int .i64 s2, .bool s3][o]? := fun o => by
    rw [hw3, World.cell?_alloc_past _ _ _ (by rw [n0]; exact hl1)]; exact box_set _ _ 0 _ _ hs (by simp) o
  have me : ∀ o, w3.cell? ⟨w.heap.size + 1 + 1, o, none⟩ = #[Value.int .i64 e0, .int .i64 e1, .int .i64 e2][o]? := fun o => by
    rw [hw3, World.cell?_alloc_past _ _ _ (by rw [n0]; exact hl2), World.cell?_setCell_other _ _ _ _ (by simp)]; exact he o
  have mr : ∀ o, w3.cell? ⟨w.heap.size + 1 + 1 + 1, o, none⟩ = #[Value.int .i64 0, .int .i64 0, .int .i64 0, .bool false][o]? := fun o => by
    rw [hw3, World.cell?_alloc_past _ _ _ (by rw [n0]; exact hlt), World.cell?_setCell_other _ _ _ _ (by simp)]; exact hr o
  have mf : ∀ o, w3.cell? ⟨w2.heap.size, o, none⟩ = #[Value.int .i64 e0, .int .i64 e1, .int .i64 0][o]? := fun o => by
    rw [hw3, ← n0]; exact World.cell?_alloc_new _ _ _ _
  have mfs : ∀ o, w3.frozen? ⟨w.heap.size + 1, o, none⟩ = false := fun o => by rw [hw3, frozen?_alloc_cells, World.frozen?_setCell]; exact hfs o
  have mfr : ∀ o, w3.frozen? ⟨w.heap.size + 1 + 1 + 1, o, none⟩ = false := fun o => by rw [hw3, frozen?_alloc_cells, World.frozen?_setCell]; exact hfr o
  have MB : Aside0 (Below w.heap.size w w3) := Aside0.mk (by rw [hw3]; exact ((pw_below_drewN HBE.out _).setCell (by simp only []; omega) _).alloc (by rw [n0]; omega) _)
  clear hw3 n0 hs he hr hfs hfr HBE
  obtain rfl := hk.out
  clear k1 k9 hk
  cases s3 with
  | false =>
    go_wp2_with fail
    refine bodyPost_ret (v := .tuple #[.agg #[.int .i64 T, .int .i64 s1, .int .i64 s2, .bool false], .int .i64 0]) (by simp [results, Tryd.results11, go_sem, ms, mr]; try rfl) rfl ⟨by simp [Hand.stepW], below_r MB.out (by omega) (by omega) (by omega) (by omega) _ _ _ _⟩
  | true =>
    go_wp2_with fail
    refine bodyPost_ret (v := .tuple #[.agg #[.int .i64 5, .int .i64 s1, .int .i64 s2, .bool true], .int .i64 0]) (by simp [results, Tryd.results11, go_sem, ms, mr]; try rfl) rfl ⟨by simp [Hand.stepW], below_r (MB.out.setCell (by simp only []; omega) _) (by omega) (by omega) (by omega) (by omega) _ _ _ _⟩

set_option maxHeartbeats 8000000 in
set_option maxRecDepth 100000 in
theorem step_p5 (c0 : ByteArray) (c1 c2 c3 c4 c5 c6 c7 s0 s1 s2 : Int) (s3 : Bool) (e0 e1 e2 : Int) (w : World) (hG : Hand.G w) (hv : charger_Valid.f c0 c1 c2 c3 c4 c5 c6 c7 s0 s1 s2 s3 = some true) (hi : charger_in.f e0 1 9 = some true) (hf : charger_fits.f c0 c1 c2 c3 c4 c5 c6 c7 e0 e1 e2 = some true)
    (k1 : 1 ≤ e0) (k9 : e0 ≤ 9) (p0 : 0 ≤ s0) (p5 : s0 ≤ 5) (T : Int) (hT : Hid (T = Hand.stepT e0 s0)) (h1 : (T == -1) = false) (hk : Hid (e0 = 5)) :
    Calls Tryd.prog 11 #[.agg #[.string c0, .int .i64 c1, .int .i64 c2, .int .i64 c3, .int .i64 c4, .int .i64 c5, .int .i64 c6, .int .i64 c7], .agg #[.int .i64 s0, .int .i64 s1, .int .i64 s2, .bool s3], .agg #[.int .i64 e0, .int .i64 e1, .int .i64 e2]] w
      fun e w' => e = .returned (.tuple #[.agg #[.int .i64 (Hand.stepW T s1 s2 s3 e0 e1 e2).1, .int .i64 (Hand.stepW T s1 s2 s3 e0 e1 e2).2.1, .int .i64 (Hand.stepW T s1 s2 s3 e0 e1 e2).2.2.1, .bool (Hand.stepW T s1 s2 s3 e0 e1 e2).2.2.2], .int .i64 0]) ∧ Below w.heap.size w w' := by
  have HI := Aside0.mk hi
  have HF := Aside0.mk hf
  clear hi hf
  have HV := Aside0.mk hv
  clear hv
  go_enter Tryd.func11, Tryd.ntmps11
  go_wp2_with fail
  refine (charger_Valid.calls _ _ _ _ _ _ _ _ _ _ _ _ true _ HV.out).mono ?_
  rintro e w1 ⟨rfl, hb1⟩
  have B1 := (Boxes.start c0 c1 c2 c3 c4 c5 c6 c7 s0 s1 s2 s3 e0 e1 e2 w).below hb1
  clear hb1 HV
  obtain ⟨hc, hs, he, hr, hfs, hfr, hlt, hbe⟩ := id B1
  have HB1 := Aside0.mk B1
  clear B1 hbe
  go_wp2_with fail
  refine (charger_in.calls _ _ _ true _ HI.out).mono ?_
  rintro e w' ⟨rfl, ⟨nd, rfl⟩⟩
  have B2 := HB1.out.below (pw_below_drewN (Below.refl _ _) nd)
  clear HB1 HI hc hs he hr hfs hfr hlt
  obtain ⟨hc, hs, he, hr, hfs, hfr, hlt, hbe⟩ := id B2
  have HB2 := Aside0.mk B2
  clear B2 hbe
  go_wp2_with fail
  refine (charger_fits.calls _ _ _ _ _ _ _ _ _ _ _ true _ HF.out).mono ?_
  rintro e w2 ⟨rfl, hb2⟩
  have B3 := HB2.out.below hb2
  have HB12 := Aside0.mk hb2
  clear hb2 HF hc hs he hr hfs hfr hlt
  obtain ⟨hc, hs, he, hr, hfs, hfr, hlt, hbe⟩ := B3
  have HBE := Aside0.mk hbe
  clear hbe
  have hg : w2.cell? ⟨0, e0.toNat * 6 + s0.toNat, none⟩ = some (.int .i64 T) := by
    have h := (hG.below HBE.out).cells e0.toNat s0.toNat (by omega) (by omega) (by omega)
    rw [Int.toNat_of_nonneg (by omega), Int.toNat_of_nonneg p0] at h
    rw [hT.out]; exact h
  clear HB2 HB12
  have hl1 : w.heap.size + 1 < w2.heap.size := by omega
  have hl2 : w.heap.size + 1 + 1 < w2.heap.size := by omega
  go_wp2_with fail
  go_quiet (fail)
  clear hg hc hT hG
  go_upto_region 13 with (fail)
  obtain ⟨w3, hw3⟩ : ∃ x, x = (((w2.drewN nq).setCell ⟨w.heap.size + 1, 0, none⟩ (.int .i64 T)).alloc (.cells #[.int .i64 e0, .int .i64 e1, .int .i64 0] 27)) := ⟨_, rfl⟩
  rw [← hw3]
  have n0 : ((w2.drewN nq).setCell ⟨w.heap.size + 1, 0, none⟩ (.int .i64 T)).heap.size = w2.heap.size := by simp [World.setCell]
  have ms : ∀ o, w3.cell? ⟨w.heap.size + 1, o, none⟩ = #[Value.int .i64 T, .int .i64 s1, .int .i64 s2, .bool s3][o]? := fun o => by
    rw [hw3, World.cell?_alloc_past _ _ _ (by rw [n0]; exact hl1)]; exact box_set _ _ 0 _ _ hs (by simp) o
  have me : ∀ o, w3.cell? ⟨w.heap.size + 1 + 1, o, none⟩ = #[Value.int .i64 e0, .int .i64 e1, .int .i64 e2][o]? := fun o => by
    rw [hw3, World.cell?_alloc_past _ _ _ (by rw [n0]; exact hl2), World.cell?_setCell_other _ _ _ _ (by simp)]; exact he o
  have mr : ∀ o, w3.cell? ⟨w.heap.size + 1 + 1 + 1, o, none⟩ = #[Value.int .i64 0, .int .i64 0, .int .i64 0, .bool false][o]? := fun o => by
    rw [hw3, World.cell?_alloc_past _ _ _ (by rw [n0]; exact hlt), World.cell?_setCell_other _ _ _ _ (by simp)]; exact hr o
  have mf : ∀ o, w3.cell? ⟨w2.heap.size, o, none⟩ = #[Value.int .i64 e0, .int .i64 e1, .int .i64 0][o]? := fun o => by
    rw [hw3, ← n0]; exact World.cell?_alloc_new _ _ _ _
  have mfs : ∀ o, w3.frozen? ⟨w.heap.size + 1, o, none⟩ = false := fun o => by rw [hw3, frozen?_alloc_cells, World.frozen?_setCell]; exact hfs o
  have mfr : ∀ o, w3.frozen? ⟨w.heap.size + 1 + 1 + 1, o, none⟩ = false := fun o => by rw [hw3, frozen?_alloc_cells, World.frozen?_setCell]; exact hfr o
  have MB : Aside0 (Below w.heap.size w w3) := Aside0.mk (by rw [hw3]; exact ((pw_below_drewN HBE.out _).setCell (by simp only []; omega) _).alloc (by rw [n0]; omega) _)
  clear hw3 n0 hs he hr hfs hfr HBE
  obtain rfl := hk.out
  clear k1 k9 hk
  cases s3 with
  | false =>
    go_wp2_with fail
    refine bodyPost_ret (v := .tuple #[.agg #[.int .i64 T, .int .i64 s1, .int .i64 s2, .bool false], .int .i64 0]) (by simp [results, Tryd.results11, go_sem, ms, mr]; try rfl) rfl ⟨by simp [Hand.stepW], below_r MB.out (by omega) (by omega) (by omega) (by omega) _ _ _ _⟩
  | true =>
    go_wp2_with fail
    refine bodyPost_ret (v := .tuple #[.agg #[.int .i64 5, .int .i64 s1, .int .i64 s2, .bool true], .int .i64 0]) (by simp [results, Tryd.results11, go_sem, ms, mr]; try rfl) rfl ⟨by simp [Hand.stepW], below_r (MB.out.setCell (by simp only []; omega) _) (by omega) (by omega) (by omega) (by omega) _ _ _ _⟩

theorem in_true {a b c : Int} (h : charger_in.f a b c = some true) : b ≤ a ∧ a ≤ c := by
  unfold charger_in.f at h
  by_cases h1 : a ≥ b
  · rw [if_pos h1] at h
    exact ⟨h1, of_decide_eq_true (Option.some.inj h)⟩
  · rw [if_neg h1] at h
    exact absurd (Option.some.inj h) (by simp)

theorem bind_ite {α : Type} {x : Option Bool} {y : Bool → Option α} {z : Option α} {r : α} (h : x.bind (fun t => if t = true then y t else z) = some r) : (x = some true ∧ y true = some r) ∨ (x = some false ∧ z = some r) := by
  cases x with
  | none => exact absurd h (by simp)
  | some b =>
    cases b with
    | true => exact Or.inl ⟨rfl, by simpa using h⟩
    | false => exact Or.inr ⟨rfl, by simpa using h⟩

theorem valid_facts {a0_0 : ByteArray} {a0_1 a0_2 a0_3 a0_4 a0_5 a0_6 a0_7 a1_0 a1_1 a1_2 : Int} {a1_3 : Bool} (h : charger_Valid.f a0_0 a0_1 a0_2 a0_3 a0_4 a0_5 a0_6 a0_7 a1_0 a1_1 a1_2 a1_3 = some true) : 0 ≤ a1_0 ∧ a1_0 ≤ 5 ∧ 0 ≤ a1_2 ∧ a1_2 ≤ 1000000 := by
  unfold charger_Valid.f at h
  rcases bind_ite h with ⟨_, h⟩ | ⟨_, h⟩
  · rcases bind_ite h with ⟨h1, h⟩ | ⟨_, h⟩
    · rcases bind_ite h with ⟨h2, h⟩ | ⟨_, h⟩
      · have := in_true h1; have := in_true h2; omega
      · exact absurd h (by simp)
    · exact absurd h (by simp)
  · exact absurd h (by simp)

theorem fits_4 {a0_0 : ByteArray} {a0_1 a0_2 a0_3 a0_4 a0_5 a0_6 a0_7 a1_1 a1_2 : Int} (h : charger_fits.f a0_0 a0_1 a0_2 a0_3 a0_4 a0_5 a0_6 a0_7 4 a1_1 a1_2 = some true) : a1_1 = 0 ∨ a1_1 = 1 := by
  unfold charger_fits.f at h
  rw [if_pos rfl] at h
  obtain ⟨t, h1, h⟩ := Option.bind_eq_some_iff.mp h
  obtain rfl := Option.some.inj h
  have := in_true h1; omega

theorem fits_6 {a0_0 : ByteArray} {a0_1 a0_2 a0_3 a0_4 a0_5 a0_6 a0_7 a1_1 a1_2 : Int} (h : charger_fits.f a0_0 a0_1 a0_2 a0_3 a0_4 a0_5 a0_6 a0_7 6 a1_1 a1_2 = some true) : a1_1 = 0 ∨ a1_1 = 1 ∨ a1_1 = 2 := by
  unfold charger_fits.f at h
  rw [if_neg (by omega), if_pos rfl] at h
  obtain ⟨t, h1, h⟩ := Option.bind_eq_some_iff.mp h
  obtain rfl := Option.some.inj h
  have := in_true h1; omega

set_option maxRecDepth 100000 in
theorem charger_Step.calls (a0_0 : ByteArray) (a0_1 : Int) (a0_2 : Int) (a0_3 : Int) (a0_4 : Int) (a0_5 : Int) (a0_6 : Int) (a0_7 : Int) (a1_0 : Int) (a1_1 : Int) (a1_2 : Int) (a1_3 : Bool) (a2_0 : Int) (a2_1 : Int) (a2_2 : Int) (r1 : Int) (r2 : Int) (r3 : Int) (r4 : Bool) (r5 : Int) (w : World) (hG : Hand.G w) (h : charger_Step.f a0_0 a0_1 a0_2 a0_3 a0_4 a0_5 a0_6 a0_7 a1_0 a1_1 a1_2 a1_3 a2_0 a2_1 a2_2 = some (r1, r2, r3, r4, r5)) :
    Calls Tryd.prog 11 #[.agg #[.string a0_0, .int .i64 a0_1, .int .i64 a0_2, .int .i64 a0_3, .int .i64 a0_4, .int .i64 a0_5, .int .i64 a0_6, .int .i64 a0_7], .agg #[.int .i64 a1_0, .int .i64 a1_1, .int .i64 a1_2, .bool a1_3], .agg #[.int .i64 a2_0, .int .i64 a2_1, .int .i64 a2_2]] w fun e w' => e = .returned (.tuple #[.agg #[.int .i64 r1, .int .i64 r2, .int .i64 r3, .bool r4], .int .i64 r5]) ∧ Below w.heap.size w w' := by
  unfold charger_Step.f at h
  rcases bind_ite h with ⟨hv, h⟩ | ⟨hv, h⟩
  · rcases bind_ite h with ⟨hi, h⟩ | ⟨hi, h⟩
    · rcases bind_ite h with ⟨hf, h⟩ | ⟨hf, h⟩
      · obtain ⟨p0, p5, q0, q1⟩ := valid_facts hv
        obtain ⟨k1, k9⟩ := in_true hi
        unfold Hand.stepV at h
        by_cases hT : Hand.stepT a2_0 a1_0 = -1
        · rw [if_pos hT] at h
          simp only [Option.some.injEq, Prod.mk.injEq] at h
          obtain ⟨rfl, rfl, rfl, rfl, rfl⟩ := h
          exact step_state a0_0 a0_1 a0_2 a0_3 a0_4 a0_5 a0_6 a0_7 a1_0 a1_1 a1_2 a1_3 a2_0 a2_1 a2_2 w hG hv hi hf k1 k9 p0 p5 _ rfl (by rw [hT]; rfl)
        · rw [if_neg hT] at h
          simp only [Option.some.injEq, Prod.mk.injEq] at h
          obtain ⟨rfl, rfl, rfl, rfl, rfl⟩ := h
          have h1 : (Hand.stepT a2_0 a1_0 == -1) = false := beq_eq_false_iff_ne.2 hT
          obtain hk | hk | hk | hk | hk | hk | hk | hk | hk : a2_0 = 1 ∨ a2_0 = 2 ∨ a2_0 = 3 ∨ a2_0 = 4 ∨ a2_0 = 5 ∨ a2_0 = 6 ∨ a2_0 = 7 ∨ a2_0 = 8 ∨ a2_0 = 9 := by omega
          · exact step_p1 a0_0 a0_1 a0_2 a0_3 a0_4 a0_5 a0_6 a0_7 a1_0 a1_1 a1_2 a1_3 a2_0 a2_1 a2_2 w hG hv hi hf k1 k9 p0 p5 _ rfl h1 hk
          · exact step_p2 a0_0 a0_1 a0_2 a0_3 a0_4 a0_5 a0_6 a0_7 a1_0 a1_1 a1_2 a1_3 a2_0 a2_1 a2_2 w hG hv hi hf k1 k9 p0 p5 _ rfl h1 hk
          · exact step_p3 a0_0 a0_1 a0_2 a0_3 a0_4 a0_5 a0_6 a0_7 a1_0 a1_1 a1_2 a1_3 a2_0 a2_1 a2_2 w hG hv hi hf k1 k9 p0 p5 _ rfl h1 hk
          · have hf' := hf
            rw [hk] at hf'
            rcases fits_4 hf' with hn | hn
            · exact step_4a a0_0 a0_1 a0_2 a0_3 a0_4 a0_5 a0_6 a0_7 a1_0 a1_1 a1_2 a1_3 a2_0 a2_1 a2_2 w hG hv hi hf k1 k9 p0 p5 _ rfl h1 hk hn
            · exact step_4b a0_0 a0_1 a0_2 a0_3 a0_4 a0_5 a0_6 a0_7 a1_0 a1_1 a1_2 a1_3 a2_0 a2_1 a2_2 w hG hv hi hf k1 k9 p0 p5 _ rfl h1 hk hn
          · exact step_p5 a0_0 a0_1 a0_2 a0_3 a0_4 a0_5 a0_6 a0_7 a1_0 a1_1 a1_2 a1_3 a2_0 a2_1 a2_2 w hG hv hi hf k1 k9 p0 p5 _ rfl h1 hk
          · have hf' := hf
            rw [hk] at hf'
            rcases fits_6 hf' with hn | hn | hn
            · exact step_6c a0_0 a0_1 a0_2 a0_3 a0_4 a0_5 a0_6 a0_7 a1_0 a1_1 a1_2 a1_3 a2_0 a2_1 a2_2 w hG hv hi hf k1 k9 p0 p5 _ rfl h1 hk hn
            · exact step_6a a0_0 a0_1 a0_2 a0_3 a0_4 a0_5 a0_6 a0_7 a1_0 a1_1 a1_2 a1_3 a2_0 a2_1 a2_2 w hG hv hi hf k1 k9 p0 p5 _ rfl h1 hk hn
            · exact step_6b a0_0 a0_1 a0_2 a0_3 a0_4 a0_5 a0_6 a0_7 a1_0 a1_1 a1_2 a1_3 a2_0 a2_1 a2_2 w hG hv hi hf k1 k9 p0 p5 _ rfl h1 hk hn
          · exact step_7 a0_0 a0_1 a0_2 a0_3 a0_4 a0_5 a0_6 a0_7 a1_0 a1_1 a1_2 a1_3 a2_0 a2_1 a2_2 w hG hv hi hf k1 k9 p0 p5 _ rfl h1 hk
          · by_cases hl : 1 < a1_2
            · exact step_8a a0_0 a0_1 a0_2 a0_3 a0_4 a0_5 a0_6 a0_7 a1_0 a1_1 a1_2 a1_3 a2_0 a2_1 a2_2 w hG hv hi hf k1 k9 p0 p5 _ rfl h1 hk hl q1
            · exact step_8b a0_0 a0_1 a0_2 a0_3 a0_4 a0_5 a0_6 a0_7 a1_0 a1_1 a1_2 a1_3 a2_0 a2_1 a2_2 w hG hv hi hf k1 k9 p0 p5 _ rfl h1 hk (by omega)
          · exact step_9 a0_0 a0_1 a0_2 a0_3 a0_4 a0_5 a0_6 a0_7 a1_0 a1_1 a1_2 a1_3 a2_0 a2_1 a2_2 w hG hv hi hf k1 k9 p0 p5 _ rfl h1 hk
      · simp only [Option.some.injEq, Prod.mk.injEq] at h
        obtain ⟨rfl, rfl, rfl, rfl, rfl⟩ := h
        exact step_fits a0_0 a0_1 a0_2 a0_3 a0_4 a0_5 a0_6 a0_7 a1_0 a1_1 a1_2 a1_3 a2_0 a2_1 a2_2 w hv hi hf
    · simp only [Option.some.injEq, Prod.mk.injEq] at h
      obtain ⟨rfl, rfl, rfl, rfl, rfl⟩ := h
      exact step_kind a0_0 a0_1 a0_2 a0_3 a0_4 a0_5 a0_6 a0_7 a1_0 a1_1 a1_2 a1_3 a2_0 a2_1 a2_2 w hv hi
  · simp only [Option.some.injEq, Prod.mk.injEq] at h
    obtain ⟨rfl, rfl, rfl, rfl, rfl⟩ := h
    exact step_invalid a0_0 a0_1 a0_2 a0_3 a0_4 a0_5 a0_6 a0_7 a1_0 a1_1 a1_2 a1_3 a2_0 a2_1 a2_2 w hv

end Go.Proofs.YtnfanhnflcjphaaDoor.PAll
