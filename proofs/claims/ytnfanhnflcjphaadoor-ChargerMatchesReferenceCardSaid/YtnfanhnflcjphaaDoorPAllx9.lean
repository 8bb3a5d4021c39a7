/- What the Go functions of this seat's laws return, told as Lean functions and proved by their walks; laid by a program of this session out of Lean's own print of the translation. No conditions of its own. -/
import Derived.Test.YtnfanhnflcjphaaDoorPAllx0
import Derived.Test.YtnfanhnflcjphaaDoorPAllx3
import Derived.Test.YtnfanhnflcjphaaDoorPAllx7
import Derived.Test.YtnfanhnflcjphaaDoorPAllx8
namespace Go.Proofs.YtnfanhnflcjphaaDoor.PAll
open Go.RowKit Go.Proofs.YtnfanhnflcjphaaDoorW.PrintWords Go.Proofs.YtnfanhnflcjphaaDoorW.PrintLast Go.Proofs.YtnfanhnflcjphaaDoorW.PrintMore
attribute [local go_sem] max2_int min2_int max_two min_two max_three min_three max_four min_four   -- for this text's walks alone
set_option linter.unusedVariables false
set_option linter.unusedSimpArgs false

/-! ### chargeparkref12_Step: function 12 -/
/-- The reference's state after an event that is possible: T is the phase. -/
def refW (T am lf : Int) (we : Bool) (k n m : Int) : Int × Int × Int × Bool :=
  if k = 7 then (T, if m = 0 then 0 else n, m, we)
  else if k = 8 then (if 1 < lf then (T, am, lf - 1, we) else (T, 0, 0, we))
  else if k = 9 then (T, 0, 0, we)
  else if k = 6 then (if n = 1 then (T, if lf = 0 then 0 else am, lf, true) else (T, if lf = 0 then 0 else am, lf, we))
  else (T, if lf = 0 then 0 else am, lf, we)

def chargeparkref12_Step.f (a0_0 : ByteArray) (a0_1 : Int) (a0_2 : Int) (a0_3 : Int) (a0_4 : Int) (a0_5 : Int) (a0_6 : Int) (a0_7 : Int) (a1_0 : Int) (a1_1 : Int) (a1_2 : Int) (a1_3 : Bool) (a2_0 : Int) (a2_1 : Int) (a2_2 : Int) : Option (Int × Int × Int × Bool × Int) :=
  (chargeparkref12_Valid.f 9 a0_0 a0_1 a0_2 a0_3 a0_4 a0_5 a0_6 a0_7 a1_0 a1_1 a1_2 a1_3).bind fun v => (chargeparkref12_Fits.f a0_0 a0_1 a0_2 a0_3 a0_4 a0_5 a0_6 a0_7 a2_0 a2_1 a2_2).bind fun t =>
    if v = true then (if 1 ≤ a2_0 ∧ a2_0 ≤ 9 then (if t = true then ((chargeparkref12_phase.f 9 a1_0 a1_1 a1_2 a1_3 a2_0 a2_1 a2_2).bind fun p => if 0 ≤ a1_2 ∧ a1_2 ≤ 1000000 then (if p < 0 then some (0, 0, 0, false, 6) else some ((refW p a1_1 a1_2 a1_3 a2_0 a2_1 a2_2).1, (refW p a1_1 a1_2 a1_3 a2_0 a2_1 a2_2).2.1, (refW p a1_1 a1_2 a1_3 a2_0 a2_1 a2_2).2.2.1, (refW p a1_1 a1_2 a1_3 a2_0 a2_1 a2_2).2.2.2, 0)) else none) else some (0, 0, 0, false, 1)) else some (0, 0, 0, false, 9)) else some (0, 0, 0, false, 1)

/-- The block g of the reference's next state. -/
structure Outs (g : Nat) (T a b : Int) (d : Bool) (w2 W : World) : Prop where
  o : ∀ o, W.cell? ⟨g, o, none⟩ = #[Value.int .i64 T, .int .i64 a, .int .i64 b, .bool d][o]?
  f : ∀ o, W.frozen? ⟨g, o, none⟩ = false
  b : Below w2.heap.size w2 W
  ge : w2.heap.size ≤ g

theorem row_put4 {W : World} {b : Nat} {z0 z1 z2 z3 : Value} (h : ∀ o, W.cell? ⟨b, o, none⟩ = #[z0, z1, z2, z3][o]?) (v0 v1 v2 v3 : Value) :
    ∀ o, ((((W.setCell ⟨b, 0, none⟩ v0).setCell ⟨b, 1, none⟩ v1).setCell ⟨b, 2, none⟩ v2).setCell ⟨b, 3, none⟩ v3).cell? ⟨b, o, none⟩ = #[v0, v1, v2, v3][o]? := fun o => by
  have h0 := box_set W b 0 _ v0 h (by simp)
  have h1 := box_set _ b 1 _ v1 h0 (by simp)
  have h2 := box_set _ b 2 _ v2 h1 (by simp)
  exact (box_set _ b 3 _ v3 h2 (by simp)) o

theorem row_far {W : World} {b g j : Nat} {v : Value} {C : Array Value} (h : ∀ o, W.cell? ⟨b, o, none⟩ = C[o]?) (hne : g ≠ b) : ∀ o, (W.setCell ⟨g, j, none⟩ v).cell? ⟨b, o, none⟩ = C[o]? := fun o => by
  rw [World.cell?_setCell_other _ _ _ _ (by intro e; cases e; exact hne rfl)]; exact h o

theorem results_c4 (tmps : Array Value) (w : World) (g : Nat) (v0 v1 v2 v3 e : Value) (hp : tmps.getD 6 undef = .pointer (some ⟨g, 0, none⟩)) (hu : tmps.getD 7 undef = e) (hc : ∀ o, w.cell? ⟨g, o, none⟩ = #[v0, v1, v2, v3][o]?) :
    (results Tryd.f12 tmps).run Tryd.prog w = .ok (.tuple #[.agg #[v0, v1, v2, v3], e]) w := by
  have hp' : tmps[6]?.getD undef = .pointer (some ⟨g, 0, none⟩) := by simpa using hp
  have hu' : tmps[7]?.getD undef = e := by simpa using hu
  simp [results, Tryd.results12, go_sem, hp', hu', hc]
  try rfl

theorem Outs.late {T a b : Int} {d : Bool} {w2 w3 : World} (h : Below w2.heap.size w2 w3) (t : TypeId) : Outs w3.heap.size T a b d w2 (w3.alloc (.cells #[.int .i64 T, .int .i64 a, .int .i64 b, .bool d] t)) :=
  ⟨fun o => World.cell?_alloc_at _ _ _ _ (by simp), fun o => by simp, below_alloc h _, h.size⟩

theorem Outs.early {T a b : Int} {d : Bool} {w2 w3 : World} {z0 z1 z2 z3 : Value} (hc : ∀ o, w3.cell? ⟨w2.heap.size, o, none⟩ = #[z0, z1, z2, z3][o]?) (hf : ∀ o, w3.frozen? ⟨w2.heap.size, o, none⟩ = false) (h : Below w2.heap.size w2 w3) :
    Outs w2.heap.size T a b d w2 ((((w3.setCell ⟨w2.heap.size, 0, none⟩ (.int .i64 T)).setCell ⟨w2.heap.size, 1, none⟩ (.int .i64 a)).setCell ⟨w2.heap.size, 2, none⟩ (.int .i64 b)).setCell ⟨w2.heap.size, 3, none⟩ (.bool d)) :=
  ⟨fun o => by
    have h0 := box_set w3 w2.heap.size 0 _ (.int .i64 T) hc (by simp)
    have h1 := box_set _ w2.heap.size 1 _ (.int .i64 a) h0 (by simp)
    have h2 := box_set _ w2.heap.size 2 _ (.int .i64 b) h1 (by simp)
    exact (box_set _ w2.heap.size 3 _ (.bool d) h2 (by simp)) o,
   fun o => by rw [World.frozen?_setCell, World.frozen?_setCell, World.frozen?_setCell, World.frozen?_setCell]; exact hf o,
   (((h.setCell (Nat.le_refl _) _).setCell (Nat.le_refl _) _).setCell (Nat.le_refl _) _).setCell (Nat.le_refl _) _, Nat.le_refl _⟩

set_option maxHeartbeats 8000000 in
set_option maxRecDepth 100000 in
theorem rstep_invalid (c0 : ByteArray) (c1 c2 c3 c4 c5 c6 c7 s0 s1 s2 : Int) (s3 : Bool) (e0 e1 e2 : Int) (w : World) (tf : Bool) (hv : chargeparkref12_Valid.f 9 c0 c1 c2 c3 c4 c5 c6 c7 s0 s1 s2 s3 = some false) (hf : chargeparkref12_Fits.f c0 c1 c2 c3 c4 c5 c6 c7 e0 e1 e2 = some tf) :
    Calls Tryd.prog 12 #[.agg #[.string c0, .int .i64 c1, .int .i64 c2, .int .i64 c3, .int .i64 c4, .int .i64 c5, .int .i64 c6, .int .i64 c7], .agg #[.int .i64 s0, .int .i64 s1, .int .i64 s2, .bool s3], .agg #[.int .i64 e0, .int .i64 e1, .int .i64 e2]] w
      fun e w' => e = .returned (.tuple #[.agg #[.int .i64 0, .int .i64 0, .int .i64 0, .bool false], .int .i64 1]) ∧ Below w.heap.size w w' := by
  have HV := Aside0.mk hv
  have HF := Aside0.mk hf
  clear hv hf
  go_enter Tryd.func12, Tryd.ntmps12
  go_wp2_with fail
  refine (chargeparkref12_Valid.calls 9 _ _ _ _ _ _ _ _ _ _ _ _ false _ HV.out).mono ?_
  rintro e w1 ⟨rfl, hb1⟩
  have B1 := (Boxes.start c0 c1 c2 c3 c4 c5 c6 c7 s0 s1 s2 s3 e0 e1 e2 w).below hb1
  clear hb1 HV
  obtain ⟨hc, hs, he, hr, hfs, hfr, hlt, hbe⟩ := id B1
  have HB1 := Aside0.mk B1
  clear B1 hbe
  go_wp2_with fail
  refine (chargeparkref12_Fits.calls _ _ _ _ _ _ _ _ _ _ _ tf _ HF.out).mono ?_
  rintro e w2 ⟨rfl, hb2⟩
  have B2 := HB1.out.below hb2
  clear HB1 hb2 HF hc hs he hr hfs hfr hlt
  obtain ⟨hc, hs, he, hr, hfs, hfr, hlt, hbe⟩ := B2
  have HBE := Aside0.mk hbe
  clear hbe
  go_wp2_with fail
  refine bodyPost_ret (v := .tuple #[.agg #[.int .i64 0, .int .i64 0, .int .i64 0, .bool false], .int .i64 1]) (by simp [results, Tryd.results12, go_sem, hr]; try rfl) rfl ⟨rfl, ?_⟩
  exact below_r HBE.out (by omega) (by omega) (by omega) (by omega) _ _ _ _

set_option maxHeartbeats 8000000 in
set_option maxRecDepth 100000 in
theorem rstep_lo (c0 : ByteArray) (c1 c2 c3 c4 c5 c6 c7 s0 s1 s2 : Int) (s3 : Bool) (e0 e1 e2 : Int) (w : World) (tf : Bool) (hv : chargeparkref12_Valid.f 9 c0 c1 c2 c3 c4 c5 c6 c7 s0 s1 s2 s3 = some true) (hf : chargeparkref12_Fits.f c0 c1 c2 c3 c4 c5 c6 c7 e0 e1 e2 = some tf) (hk : decide (e0 < 1) = true) :
    Calls Tryd.prog 12 #[.agg #[.string c0, .int .i64 c1, .int .i64 c2, .int .i64 c3, .int .i64 c4, .int .i64 c5, .int .i64 c6, .int .i64 c7], .agg #[.int .i64 s0, .int .i64 s1, .int .i64 s2, .bool s3], .agg #[.int .i64 e0, .int .i64 e1, .int .i64 e2]] w
      fun e w' => e = .returned (.tuple #[.agg #[.int .i64 0, .int .i64 0, .int .i64 0, .bool false], .int .i64 9]) ∧ Below w.heap.size w w' := by
  have HV := Aside0.mk hv
  have HF := Aside0.mk hf
  clear hv hf
  go_enter Tryd.func12, Tryd.ntmps12
  go_wp2_with fail
  refine (chargeparkref12_Valid.calls 9 _ _ _ _ _ _ _ _ _ _ _ _ true _ HV.out).mono ?_
  rintro e w1 ⟨rfl, hb1⟩
  have B1 := (Boxes.start c0 c1 c2 c3 c4 c5 c6 c7 s0 s1 s2 s3 e0 e1 e2 w).below hb1
  clear hb1 HV
  obtain ⟨hc, hs, he, hr, hfs, hfr, hlt, hbe⟩ := id B1
  have HB1 := Aside0.mk B1
  clear B1 hbe
  go_wp2_with fail
  refine (chargeparkref12_Fits.calls _ _ _ _ _ _ _ _ _ _ _ tf _ HF.out).mono ?_
  rintro e w2 ⟨rfl, hb2⟩
  have B2 := HB1.out.below hb2
  clear HB1 hb2 HF hc hs he hr hfs hfr hlt
  obtain ⟨hc, hs, he, hr, hfs, hfr, hlt, hbe⟩ := B2
  have HBE := Aside0.mk hbe
  clear hbe
  go_wp2_with fail
  refine bodyPost_ret (v := .tuple #[.agg #[.int .i64 0, .int .i64 0, .int .i64 0, .bool false], .int .i64 9]) (by simp [results, Tryd.results12, go_sem, hr]; try rfl) rfl ⟨rfl, ?_⟩
  exact below_r HBE.out (by omega) (by omega) (by omega) (by omega) _ _ _ _

set_option maxHeartbeats 8000000 in
set_option maxRecDepth 100000 in
theorem rstep_hi (c0 : ByteArray) (c1 c2 c3 c4 c5 c6 c7 s0 s1 s2 : Int) (s3 : Bool) (e0 e1 e2 : Int) (w : World) (tf : Bool) (hv : chargeparkref12_Valid.f 9 c0 c1 c2 c3 c4 c5 c6 c7 s0 s1 s2 s3 = some true) (hf : chargeparkref12_Fits.f c0 c1 c2 c3 c4 c5 c6 c7 e0 e1 e2 = some tf) (hk0 : decide (e0 < 1) = false) (hk : decide (9 < e0) = true) :
    Calls Tryd.prog 12 #[.agg #[.string c0, .int .i64 c1, .int .i64 c2, .int .i64 c3, .int .i64 c4, .int .i64 c5, .int .i64 c6, .int .i64 c7], .agg #[.int .i64 s0, .int .i64 s1, .int .i64 s2, .bool s3], .agg #[.int .i64 e0, .int .i64 e1, .int .i64 e2]] w
      fun e w' => e = .returned (.tuple #[.agg #[.int .i64 0, .int .i64 0, .int .i64 0, .bool false], .int .i64 9]) ∧ Below w.heap.size w w' := by
  have HV := Aside0.mk hv
  have HF := Aside0.mk hf
  clear hv hf
  go_enter Tryd.func12, Tryd.ntmps12
  go_wp2_with fail
  refine (chargeparkref12_Valid.calls 9 _ _ _ _ _ _ _ _ _ _ _ _ true _ HV.out).mono ?_
  rintro e w1 ⟨rfl, hb1⟩
  have B1 := (Boxes.start c0 c1 c2 c3 c4 c5 c6 c7 s0 s1 s2 s3 e0 e1 e2 w).below hb1
  clear hb1 HV
  obtain ⟨hc, hs, he, hr, hfs, hfr, hlt, hbe⟩ := id B1
  have HB1 := Aside0.mk B1
  clear B1 hbe
  go_wp2_with fail
  refine (chargeparkref12_Fits.calls _ _ _ _ _ _ _ _ _ _ _ tf _ HF.out).mono ?_
  rintro e w2 ⟨rfl, hb2⟩
  have B2 := HB1.out.below hb2
  clear HB1 hb2 HF hc hs he hr hfs hfr hlt
  obtain ⟨hc, hs, he, hr, hfs, hfr, hlt, hbe⟩ := B2
  have HBE := Aside0.mk hbe
  clear hbe
  go_wp2_with fail
  refine bodyPost_ret (v := .tuple #[.agg #[.int .i64 0, .int .i64 0, .int .i64 0, .bool false], .int .i64 9]) (by simp [results, Tryd.results12, go_sem, hr]; try rfl) rfl ⟨rfl, ?_⟩
  exact below_r HBE.out (by omega) (by omega) (by omega) (by omega) _ _ _ _

set_option maxHeartbeats 8000000 in
set_option maxRecDepth 100000 in
theorem rstep_fits (c0 : ByteArray) (c1 c2 c3 c4 c5 c6 c7 s0 s1 s2 : Int) (s3 : Bool) (e0 e1 e2 : Int) (w : World) (hv : chargeparkref12_Valid.f 9 c0 c1 c2 c3 c4 c5 c6 c7 s0 s1 s2 s3 = some true) (hf : chargeparkref12_Fits.f c0 c1 c2 c3 c4 c5 c6 c7 e0 e1 e2 = some false) (hk0 : decide (e0 < 1) = false) (hk1 : decide (9 < e0) = false) :
    Calls Tryd.prog 12 #[.agg #[.string c0, .int .i64 c1, .int .i64 c2, .int .i64 c3, .int .i64 c4, .int .i64 c5, .int .i64 c6, .int .i64 c7], .agg #[.int .i64 s0, .int .i64 s1, .int .i64 s2, .bool s3], .agg #[.int .i64 e0, .int .i64 e1, .int .i64 e2]] w
      fun e w' => e = .returned (.tuple #[.agg #[.int .i64 0, .int .i64 0, .int .i64 0, .bool false], .int .i64 1]) ∧ Below w.heap.size w w' := by
  have HV := Aside0.mk hv
  have HF := Aside0.mk hf
  clear hv hf
  go_enter Tryd.func12, Tryd.ntmps12
  go_wp2_with fail
  refine (chargeparkref12_Valid.calls 9 _ _ _ _ _ _ _ _ _ _ _ _ true _ HV.out).mono ?_
  rintro e w1 ⟨rfl, hb1⟩
  have B1 := (Boxes.start c0 c1 c2 c3 c4 c5 c6 c7 s0 s1 s2 s3 e0 e1 e2 w).below hb1
  clear hb1 HV
  obtain ⟨hc, hs, he, hr, hfs, hfr, hlt, hbe⟩ := id B1
  have HB1 := Aside0.mk B1
  clear B1 hbe
  go_wp2_with fail
  refine (chargeparkref12_Fits.calls _ _ _ _ _ _ _ _ _ _ _ false _ HF.out).mono ?_
  rintro e w2 ⟨rfl, hb2⟩
  have B2 := HB1.out.below hb2
  clear HB1 hb2 HF hc hs he hr hfs hfr hlt
  obtain ⟨hc, hs, he, hr, hfs, hfr, hlt, hbe⟩ := B2
  have HBE := Aside0.mk hbe
  clear hbe
  go_wp2_with fail
  refine bodyPost_ret (v := .tuple #[.agg #[.int .i64 0, .int .i64 0, .int .i64 0, .bool false], .int .i64 1]) (by simp [results, Tryd.results12, go_sem, hr]; try rfl) rfl ⟨rfl, ?_⟩
  exact below_r HBE.out (by omega) (by omega) (by omega) (by omega) _ _ _ _

set_option maxHeartbeats 8000000 in
set_option maxRecDepth 100000 in
theorem rstep_state (c0 : ByteArray) (c1 c2 c3 c4 c5 c6 c7 s0 s1 s2 : Int) (s3 : Bool) (e0 e1 e2 : Int) (w : World) (hv : chargeparkref12_Valid.f 9 c0 c1 c2 c3 c4 c5 c6 c7 s0 s1 s2 s3 = some true) (hf : chargeparkref12_Fits.f c0 c1 c2 c3 c4 c5 c6 c7 e0 e1 e2 = some true) (hk0 : decide (e0 < 1) = false) (hk1 : decide (9 < e0) = false) (T : Int) (hp : chargeparkref12_phase.f 9 s0 s1 s2 s3 e0 e1 e2 = some T) (h1 : decide (T < 0) = true) :
    Calls Tryd.prog 12 #[.agg #[.string c0, .int .i64 c1, .int .i64 c2, .int .i64 c3, .int .i64 c4, .int .i64 c5, .int .i64 c6, .int .i64 c7], .agg #[.int .i64 s0, .int .i64 s1, .int .i64 s2, .bool s3], .agg #[.int .i64 e0, .int .i64 e1, .int .i64 e2]] w
      fun e w' => e = .returned (.tuple #[.agg #[.int .i64 0, .int .i64 0, .int .i64 0, .bool false], .int .i64 6]) ∧ Below w.heap.size w w' := by
  have HP := Aside0.mk hp
  clear hp
  have HV := Aside0.mk hv
  have HF := Aside0.mk hf
  clear hv hf
  go_enter Tryd.func12, Tryd.ntmps12
  go_wp2_with fail
  refine (chargeparkref12_Valid.calls 9 _ _ _ _ _ _ _ _ _ _ _ _ true _ HV.out).mono ?_
  rintro e w1 ⟨rfl, hb1⟩
  have B1 := (Boxes.start c0 c1 c2 c3 c4 c5 c6 c7 s0 s1 s2 s3 e0 e1 e2 w).below hb1
  clear hb1 HV
  obtain ⟨hc, hs, he, hr, hfs, hfr, hlt, hbe⟩ := id B1
  have HB1 := Aside0.mk B1
  clear B1 hbe
  go_wp2_with fail
  refine (chargeparkref12_Fits.calls _ _ _ _ _ _ _ _ _ _ _ true _ HF.out).mono ?_
  rintro e w2 ⟨rfl, hb2⟩
  have B2 := HB1.out.below hb2
  clear HB1 hb2 HF hc hs he hr hfs hfr hlt
  obtain ⟨hc, hs, he, hr, hfs, hfr, hlt, hbe⟩ := B2
  have HBE := Aside0.mk hbe
  clear hbe
  have hl1 : w.heap.size + 1 < w2.heap.size := by omega
  have hl2 : w.heap.size + 1 + 1 < w2.heap.size := by omega
  go_wp2_with fail
  clear hc
  have hz2 : ∀ W : World, Below w2.heap.size w2 W → W.cell? ⟨w.heap.size + 1, 0, none⟩ = some (.int .i64 s0) ∧ W.cell? ⟨w.heap.size + 1, 1, none⟩ = some (.int .i64 s1) ∧ W.cell? ⟨w.heap.size + 1, 2, none⟩ = some (.int .i64 s2) ∧ W.cell? ⟨w.heap.size + 1, 3, none⟩ = some (.bool s3) ∧ W.cell? ⟨w.heap.size + 1 + 1, 0, none⟩ = some (.int .i64 e0) ∧ W.cell? ⟨w.heap.size + 1 + 1, 1, none⟩ = some (.int .i64 e1) ∧ W.cell? ⟨w.heap.size + 1 + 1, 2, none⟩ = some (.int .i64 e2) ∧ Below w2.heap.size w2 W := fun W hW => ⟨(hW.cell (by simp; omega)).trans (hs 0), (hW.cell (by simp; omega)).trans (hs 1), (hW.cell (by simp; omega)).trans (hs 2), (hW.cell (by simp; omega)).trans (hs 3), (hW.cell (by simp; omega)).trans (he 0), (hW.cell (by simp; omega)).trans (he 1), (hW.cell (by simp; omega)).trans (he 2), hW⟩
  have HZ := Lib.hid hz2
  clear hz2
  go_region_held3 (fun x => x.cell? ⟨w.heap.size + 1, 0, none⟩ = some (.int .i64 s0) ∧ x.cell? ⟨w.heap.size + 1, 1, none⟩ = some (.int .i64 s1) ∧ x.cell? ⟨w.heap.size + 1, 2, none⟩ = some (.int .i64 s2) ∧ x.cell? ⟨w.heap.size + 1, 3, none⟩ = some (.bool s3) ∧ x.cell? ⟨w.heap.size + 1 + 1, 0, none⟩ = some (.int .i64 e0) ∧ x.cell? ⟨w.heap.size + 1 + 1, 1, none⟩ = some (.int .i64 e1) ∧ x.cell? ⟨w.heap.size + 1 + 1, 2, none⟩ = some (.int .i64 e2) ∧ Below w2.heap.size w2 x) (exact HZ.out _ (by repeat (first | exact Below.refl _ _ | (with_reducible apply below_alloc) | (with_reducible apply pw_below_drewN) | (with_reducible apply below_drew1) | (refine Below.setCell ?_ (by simp) _) | (refine Below.trans ?_ (hb3.mono (by simp))))))
    (first | (go_at_call 25; refine (chargeparkref12_phase.calls 9 _ _ _ _ _ _ _ _ _ HP.out).mono ?_; rintro e w3 ⟨rfl, hb3⟩; obtain ⟨hc3, hf3⟩ := bcell hb3; have hz3 := hb3.size))
  · rename_i hH_
    clear hH_
    have hO : Outs w3.heap.size T s1 s2 s3 w2 (w3.alloc (.cells #[.int .i64 T, .int .i64 s1, .int .i64 s2, .bool s3] 25)) := Outs.late (by repeat (first | exact Below.refl _ _ | (with_reducible apply below_alloc) | (with_reducible apply below_drew1) | (refine Below.trans ?_ (hb3.mono (by simp))))) _
    generalize (w3.alloc (.cells #[.int .i64 T, .int .i64 s1, .int .i64 s2, .bool s3] 25)) = W at hO ⊢
    generalize w3.heap.size = g at hO ⊢
    clear hb3 hc3 hf3 hz3
    obtain ⟨ho, hfo, hbO, hge⟩ := hO
    have ms : ∀ o, W.cell? ⟨w.heap.size + 1, o, none⟩ = #[Value.int .i64 s0, .int .i64 s1, .int .i64 s2, .bool s3][o]? := fun o => (hbO.cell (by simp; omega)).trans (hs o)
    have me : ∀ o, W.cell? ⟨w.heap.size + 1 + 1, o, none⟩ = #[Value.int .i64 e0, .int .i64 e1, .int .i64 e2][o]? := fun o => (hbO.cell (by simp; omega)).trans (he o)
    have mr : ∀ o, W.cell? ⟨w.heap.size + 1 + 1 + 1, o, none⟩ = #[Value.int .i64 0, .int .i64 0, .int .i64 0, .bool false][o]? := fun o => (hbO.cell (by simp; omega)).trans (hr o)
    have mfr : ∀ o, W.frozen? ⟨w.heap.size + 1 + 1 + 1, o, none⟩ = false := fun o => (hbO.frozen (by simp; omega)).trans (hfr o)
    have MB : Aside0 (Below w.heap.size w W) := Aside0.mk (HBE.out.trans (hbO.mono (by omega)))
    have g1 : g ≠ w.heap.size + 1 := by omega
    have g2 : g ≠ w.heap.size + 1 + 1 := by omega
    have g3 : g ≠ w.heap.size + 1 + 1 + 1 := by omega
    have g4 : w.heap.size ≤ g := by omega
    have n1 : w.heap.size + 1 ≠ g := by omega
    have n2 : w.heap.size + 1 + 1 ≠ g := by omega
    have n3 : w.heap.size + 1 + 1 + 1 ≠ g := by omega
    clear hs he hr hfs hfr hlt HBE hl1 hl2 HZ HP hbO hge
    go_wp2_with fail
    refine bodyPost_ret (v := .tuple #[.agg #[.int .i64 0, .int .i64 0, .int .i64 0, .bool false], .int .i64 6]) (by simp [results, Tryd.results12, go_sem, mr]; try rfl) rfl ⟨rfl, ?_⟩
    exact below_r MB.out (by omega) (by omega) (by omega) (by omega) _ _ _ _
  · rename_i hH_
    clear hH_
    have hO : Outs w2.heap.size T s1 s2 s3 w2 ((((w3.setCell ⟨w2.heap.size, 0, none⟩ (.int .i64 T)).setCell ⟨w2.heap.size, 1, none⟩ (.int .i64 s1)).setCell ⟨w2.heap.size, 2, none⟩ (.int .i64 s2)).setCell ⟨w2.heap.size, 3, none⟩ (.bool s3)) := Outs.early (z0 := .int .i64 0) (z1 := .int .i64 0) (z2 := .int .i64 0) (z3 := .bool false) (fun o => (hb3.cell (by simp)).trans (by simp)) (fun o => (hb3.frozen (by simp)).trans (by simp)) (by repeat (first | exact Below.refl _ _ | (with_reducible apply below_alloc) | (with_reducible apply below_drew1) | (refine Below.trans ?_ (hb3.mono (by simp)))))
    generalize ((((w3.setCell ⟨w2.heap.size, 0, none⟩ (.int .i64 T)).setCell ⟨w2.heap.size, 1, none⟩ (.int .i64 s1)).setCell ⟨w2.heap.size, 2, none⟩ (.int .i64 s2)).setCell ⟨w2.heap.size, 3, none⟩ (.bool s3)) = W at hO ⊢
    generalize w2.heap.size = g at hO ⊢
    clear hb3 hc3 hf3 hz3
    obtain ⟨ho, hfo, hbO, hge⟩ := hO
    have ms : ∀ o, W.cell? ⟨w.heap.size + 1, o, none⟩ = #[Value.int .i64 s0, .int .i64 s1, .int .i64 s2, .bool s3][o]? := fun o => (hbO.cell (by simp; omega)).trans (hs o)
    have me : ∀ o, W.cell? ⟨w.heap.size + 1 + 1, o, none⟩ = #[Value.int .i64 e0, .int .i64 e1, .int .i64 e2][o]? := fun o => (hbO.cell (by simp; omega)).trans (he o)
    have mr : ∀ o, W.cell? ⟨w.heap.size + 1 + 1 + 1, o, none⟩ = #[Value.int .i64 0, .int .i64 0, .int .i64 0, .bool false][o]? := fun o => (hbO.cell (by simp; omega)).trans (hr o)
    have mfr : ∀ o, W.frozen? ⟨w.heap.size + 1 + 1 + 1, o, none⟩ = false := fun o => (hbO.frozen (by simp; omega)).trans (hfr o)
    have MB : Aside0 (Below w.heap.size w W) := Aside0.mk (HBE.out.trans (hbO.mono (by omega)))
    have g1 : g ≠ w.heap.size + 1 := by omega
    have g2 : g ≠ w.heap.size + 1 + 1 := by omega
    have g3 : g ≠ w.heap.size + 1 + 1 + 1 := by omega
    have g4 : w.heap.size ≤ g := by omega
    have n1 : w.heap.size + 1 ≠ g := by omega
    have n2 : w.heap.size + 1 + 1 ≠ g := by omega
    have n3 : w.heap.size + 1 + 1 + 1 ≠ g := by omega
    clear hs he hr hfs hfr hlt HBE hl1 hl2 HZ HP hbO hge
    go_wp2_with fail
    refine bodyPost_ret (v := .tuple #[.agg #[.int .i64 0, .int .i64 0, .int .i64 0, .bool false], .int .i64 6]) (by simp [results, Tryd.results12, go_sem, mr]; try rfl) rfl ⟨rfl, ?_⟩
    exact below_r MB.out (by omega) (by omega) (by omega) (by omega) _ _ _ _

set_option maxHeartbeats 8000000 in
set_option maxRecDepth 100000 in
theorem rstep_7a (c0 : ByteArray) (c1 c2 c3 c4 c5 c6 c7 s0 s1 s2 : Int) (s3 : Bool) (e0 e1 e2 : Int) (w : World) (hv : chargeparkref12_Valid.f 9 c0 c1 c2 c3 c4 c5 c6 c7 s0 s1 s2 s3 = some true) (hf : chargeparkref12_Fits.f c0 c1 c2 c3 c4 c5 c6 c7 e0 e1 e2 = some true) (hk0 : decide (e0 < 1) = false) (hk1 : decide (9 < e0) = false) (T : Int) (hp : chargeparkref12_phase.f 9 s0 s1 s2 s3 e0 e1 e2 = some T) (hT : decide (T < 0) = false) (hk : Hid (e0 = 7)) (hm : Hid (e2 = 0)) :
    Calls Tryd.prog 12 #[.agg #[.string c0, .int .i64 c1, .int .i64 c2, .int .i64 c3, .int .i64 c4, .int .i64 c5, .int .i64 c6, .int .i64 c7], .agg #[.int .i64 s0, .int .i64 s1, .int .i64 s2, .bool s3], .agg #[.int .i64 e0, .int .i64 e1, .int .i64 e2]] w
      fun e w' => e = .returned (.tuple #[.agg #[.int .i64 (refW T s1 s2 s3 e0 e1 e2).1, .int .i64 (refW T s1 s2 s3 e0 e1 e2).2.1, .int .i64 (refW T s1 s2 s3 e0 e1 e2).2.2.1, .bool (refW T s1 s2 s3 e0 e1 e2).2.2.2], .int .i64 0]) ∧ Below w.heap.size w w' := by
  have HP := Aside0.mk hp
  clear hp
  have HV := Aside0.mk hv
  have HF := Aside0.mk hf
  clear hv hf
  go_enter Tryd.func12, Tryd.ntmps12
  go_wp2_with fail
  refine (chargeparkref12_Valid.calls 9 _ _ _ _ _ _ _ _ _ _ _ _ true _ HV.out).mono ?_
  rintro e w1 ⟨rfl, hb1⟩
  have B1 := (Boxes.start c0 c1 c2 c3 c4 c5 c6 c7 s0 s1 s2 s3 e0 e1 e2 w).below hb1
  clear hb1 HV
  obtain ⟨hc, hs, he, hr, hfs, hfr, hlt, hbe⟩ := id B1
  have HB1 := Aside0.mk B1
  clear B1 hbe
  go_wp2_with fail
  refine (chargeparkref12_Fits.calls _ _ _ _ _ _ _ _ _ _ _ true _ HF.out).mono ?_
  rintro e w2 ⟨rfl, hb2⟩
  have B2 := HB1.out.below hb2
  clear HB1 hb2 HF hc hs he hr hfs hfr hlt
  obtain ⟨hc, hs, he, hr, hfs, hfr, hlt, hbe⟩ := B2
  have HBE := Aside0.mk hbe
  clear hbe
  have hl1 : w.heap.size + 1 < w2.heap.size := by omega
  have hl2 : w.heap.size + 1 + 1 < w2.heap.size := by omega
  go_wp2_with fail
  clear hc
  have hz2 : ∀ W : World, Below w2.heap.size w2 W → W.cell? ⟨w.heap.size + 1, 0, none⟩ = some (.int .i64 s0) ∧ W.cell? ⟨w.heap.size + 1, 1, none⟩ = some (.int .i64 s1) ∧ W.cell? ⟨w.heap.size + 1, 2, none⟩ = some (.int .i64 s2) ∧ W.cell? ⟨w.heap.size + 1, 3, none⟩ = some (.bool s3) ∧ W.cell? ⟨w.heap.size + 1 + 1, 0, none⟩ = some (.int .i64 e0) ∧ W.cell? ⟨w.heap.size + 1 + 1, 1, none⟩ = some (.int .i64 e1) ∧ W.cell? ⟨w.heap.size + 1 + 1, 2, none⟩ = some (.int .i64 e2) ∧ Below w2.heap.size w2 W := fun W hW => ⟨(hW.cell (by simp; omega)).trans (hs 0), (hW.cell (by simp; omega)).trans (hs 1), (hW.cell (by simp; omega)).trans (hs 2), (hW.cell (by simp; omega)).trans (hs 3), (hW.cell (by simp; omega)).trans (he 0), (hW.cell (by simp; omega)).trans (he 1), (hW.cell (by simp; omega)).trans (he 2), hW⟩
  have HZ := Lib.hid hz2
  clear hz2
  go_region_held3 (fun x => x.cell? ⟨w.heap.size + 1, 0, none⟩ = some (.int .i64 s0) ∧ x.cell? ⟨w.heap.size + 1, 1, none⟩ = some (.int .i64 s1) ∧ x.cell? ⟨w.heap.size + 1, 2, none⟩ = some (.int .i64 s2) ∧ x.cell? ⟨w.heap.size + 1, 3, none⟩ = some (.bool s3) ∧ x.cell? ⟨w.heap.size + 1 + 1, 0, none⟩ = some (.int .i64 e0) ∧ x.cell? ⟨w.heap.size + 1 + 1, 1, none⟩ = some (.int .i64 e1) ∧ x.cell? ⟨w.heap.size + 1 + 1, 2, none⟩ = some (.int .i64 e2) ∧ Below w2.heap.size w2 x) (exact HZ.out _ (by repeat (first | exact Below.refl _ _ | (with_reducible apply below_alloc) | (with_reducible apply pw_below_drewN) | (with_reducible apply below_drew1) | (refine Below.setCell ?_ (by simp) _) | (refine Below.trans ?_ (hb3.mono (by simp))))))
    (first | (go_at_call 25; refine (chargeparkref12_phase.calls 9 _ _ _ _ _ _ _ _ _ HP.out).mono ?_; rintro e w3 ⟨rfl, hb3⟩; obtain ⟨hc3, hf3⟩ := bcell hb3; have hz3 := hb3.size))
  · rename_i hH_
    clear hH_
    have hO : Outs w3.heap.size T s1 s2 s3 w2 (w3.alloc (.cells #[.int .i64 T, .int .i64 s1, .int .i64 s2, .bool s3] 25)) := Outs.late (by repeat (first | exact Below.refl _ _ | (with_reducible apply below_alloc) | (with_reducible apply below_drew1) | (refine Below.trans ?_ (hb3.mono (by simp))))) _
    generalize (w3.alloc (.cells #[.int .i64 T, .int .i64 s1, .int .i64 s2, .bool s3] 25)) = W at hO ⊢
    generalize w3.heap.size = g at hO ⊢
    clear hb3 hc3 hf3 hz3
    obtain ⟨ho, hfo, hbO, hge⟩ := hO
    have ms : ∀ o, W.cell? ⟨w.heap.size + 1, o, none⟩ = #[Value.int .i64 s0, .int .i64 s1, .int .i64 s2, .bool s3][o]? := fun o => (hbO.cell (by simp; omega)).trans (hs o)
    have me : ∀ o, W.cell? ⟨w.heap.size + 1 + 1, o, none⟩ = #[Value.int .i64 e0, .int .i64 e1, .int .i64 e2][o]? := fun o => (hbO.cell (by simp; omega)).trans (he o)
    have mr : ∀ o, W.cell? ⟨w.heap.size + 1 + 1 + 1, o, none⟩ = #[Value.int .i64 0, .int .i64 0, .int .i64 0, .bool false][o]? := fun o => (hbO.cell (by simp; omega)).trans (hr o)
    have mfr : ∀ o, W.frozen? ⟨w.heap.size + 1 + 1 + 1, o, none⟩ = false := fun o => (hbO.frozen (by simp; omega)).trans (hfr o)
    have MB : Aside0 (Below w.heap.size w W) := Aside0.mk (HBE.out.trans (hbO.mono (by omega)))
    have g1 : g ≠ w.heap.size + 1 := by omega
    have g2 : g ≠ w.heap.size + 1 + 1 := by omega
    have g3 : g ≠ w.heap.size + 1 + 1 + 1 := by omega
    have g4 : w.heap.size ≤ g := by omega
    have n1 : w.heap.size + 1 ≠ g := by omega
    have n2 : w.heap.size + 1 + 1 ≠ g := by omega
    have n3 : w.heap.size + 1 + 1 + 1 ≠ g := by omega
    clear hs he hr hfs hfr hlt HBE hl1 hl2 HZ HP hbO hge
    clear hk0 hk1
    obtain rfl := hk.out
    obtain rfl := hm.out
    clear hk hm
    go_upto_region 12 with (fail)
    go_upto_region 19 with (fail)
    go_upto_region 23 with (fail)
    go_wp2_with fail
    refine bodyPost_ret (v := .tuple #[.agg #[.int .i64 T, .int .i64 0, .int .i64 0, .bool s3], .int .i64 0]) (results_c4 _ _ (w.heap.size + 1 + 1 + 1) _ _ _ _ _ rfl rfl (row_put4 (z0 := .int .i64 0) (z1 := .int .i64 0) (z2 := .int .i64 0) (z3 := .bool false) ?_ _ _ _ _)) rfl ⟨by simp [refW], ?_⟩
    · with_reducible repeat (first | exact mr | refine row_far ?_ g3)
    · repeat (first | (with_reducible exact MB.out) | (refine Below.setCell ?_ (by simp only []; omega) _))
  · rename_i hH_
    clear hH_
    have hO : Outs w2.heap.size T s1 s2 s3 w2 ((((w3.setCell ⟨w2.heap.size, 0, none⟩ (.int .i64 T)).setCell ⟨w2.heap.size, 1, none⟩ (.int .i64 s1)).setCell ⟨w2.heap.size, 2, none⟩ (.int .i64 s2)).setCell ⟨w2.heap.size, 3, none⟩ (.bool s3)) := Outs.early (z0 := .int .i64 0) (z1 := .int .i64 0) (z2 := .int .i64 0) (z3 := .bool false) (fun o => (hb3.cell (by simp)).trans (by simp)) (fun o => (hb3.frozen (by simp)).trans (by simp)) (by repeat (first | exact Below.refl _ _ | (with_reducible apply below_alloc) | (with_reducible apply below_drew1) | (refine Below.trans ?_ (hb3.mono (by simp)))))
    generalize ((((w3.setCell ⟨w2.heap.size, 0, none⟩ (.int .i64 T)).setCell ⟨w2.heap.size, 1, none⟩ (.int .i64 s1)).setCell ⟨w2.heap.size, 2, none⟩ (.int .i64 s2)).setCell ⟨w2.heap.size, 3, none⟩ (.bool s3)) = W at hO ⊢
    generalize w2.heap.size = g at hO ⊢
    clear hb3 hc3 hf3 hz3
    obtain ⟨ho, hfo, hbO, hge⟩ := hO
    have ms : ∀ o, W.cell? ⟨w.heap.size + 1, o, none⟩ = #[Value.int .i64 s0, .int .i64 s1, .int .i64 s2, .bool s3][o]? := fun o => (hbO.cell (by simp; omega)).trans (hs o)
    have me : ∀ o, W.cell? ⟨w.heap.size + 1 + 1, o, none⟩ = #[Value.int .i64 e0, .int .i64 e1, .int .i64 e2][o]? := fun o => (hbO.cell (by simp; omega)).trans (he o)
    have mr : ∀ o, W.cell? ⟨w.heap.size + 1 + 1 + 1, o, none⟩ = #[Value.int .i64 0, .int .i64 0, .int .i64 0, .bool false][o]? := fun o => (hbO.cell (by simp; omega)).trans (hr o)
    have mfr : ∀ o, W.frozen? ⟨w.heap.size + 1 + 1 + 1, o, none⟩ = false := fun o => (hbO.frozen (by simp; omega)).trans (hfr o)
    have MB : Aside0 (Below w.heap.size w W) := Aside0.mk (HBE.out.trans (hbO.mono (by omega)))
    have g1 : g ≠ w.heap.size + 1 := by omega
    have g2 : g ≠ w.heap.size + 1 + 1 := by omega
    have g3 : g ≠ w.heap.size + 1 + 1 + 1 := by omega
    have g4 : w.heap.size ≤ g := by omega
    have n1 : w.heap.size + 1 ≠ g := by omega
    have n2 : w.heap.size + 1 + 1 ≠ g := by omega
    have n3 : w.heap.size + 1 + 1 + 1 ≠ g := by omega
    clear hs he hr hfs hfr hlt HBE hl1 hl2 HZ HP hbO hge
    clear hk0 hk1
    obtain rfl := hk.out
    obtain rfl := hm.out
    clear hk hm
    go_upto_region 12 with (fail)
    go_upto_region 19 with (fail)
    go_upto_region 23 with (fail)
    go_wp2_with fail
    refine bodyPost_ret (v := .tuple #[.agg #[.int .i64 T, .int .i64 0, .int .i64 0, .bool s3], .int .i64 0]) (results_c4 _ _ (w.heap.size + 1 + 1 + 1) _ _ _ _ _ rfl rfl (row_put4 (z0 := .int .i64 0) (z1 := .int .i64 0) (z2 := .int .i64 0) (z3 := .bool false) ?_ _ _ _ _)) rfl ⟨by simp [refW], ?_⟩
    · with_reducible repeat (first | exact mr | refine row_far ?_ g3)
    · repeat (first | (with_reducible exact MB.out) | (refine Below.setCell ?_ (by simp only []; omega) _))

set_option maxHeartbeats 8000000 in
set_option maxRecDepth 100000 in
theorem rstep_7b (c0 : ByteArray) (c1 c2 c3 c4 c5 c6 c7 s0 s1 s2 : Int) (s3 : Bool) (e0 e1 e2 : Int) (w : World) (hv : chargeparkref12_Valid.f 9 c0 c1 c2 c3 c4 c5 c6 c7 s0 s1 s2 s3 = some true) (hf : chargeparkref12_Fits.f c0 c1 c2 c3 c4 c5 c6 c7 e0 e1 e2 = some true) (hk0 : decide (e0 < 1) = false) (hk1 : decide (9 < e0) = false) (T : Int) (hp : chargeparkref12_phase.f 9 s0 s1 s2 s3 e0 e1 e2 = some T) (hT : decide (T < 0) = false) (hk : Hid (e0 = 7)) (hm : (e2 == 0) = false) (hn : Hid (e2 ≠ 0)) :
    Calls Tryd.prog 12 #[.agg #[.string c0, .int .i64 c1, .int .i64 c2, .int .i64 c3, .int .i64 c4, .int .i64 c5, .int .i64 c6, .int .i64 c7], .agg #[.int .i64 s0, .int .i64 s1, .int .i64 s2, .bool s3], .agg #[.int .i64 e0, .int .i64 e1, .int .i64 e2]] w
      fun e w' => e = .returned (.tuple #[.agg #[.int .i64 (refW T s1 s2 s3 e0 e1 e2).1, .int .i64 (refW T s1 s2 s3 e0 e1 e2).2.1, .int .i64 (refW T s1 s2 s3 e0 e1 e2).2.2.1, .bool (refW T s1 s2 s3 e0 e1 e2).2.2.2], .int .i64 0]) ∧ Below w.heap.size w w' := by
  have HP := Aside0.mk hp
  clear hp
  have HV := Aside0.mk hv
  have HF := Aside0.mk hf
  clear hv hf
  go_enter Tryd.func12, Tryd.ntmps12
  go_wp2_with fail
  refine (chargeparkref12_Valid.calls 9 _ _ _ _ _ _ _ _ _ _ _ _ true _ HV.out).mono ?_
  rintro e w1 ⟨rfl, hb1⟩
  have B1 := (Boxes.start c0 c1 c2 c3 c4 c5 c6 c7 s0 s1 s2 s3 e0 e1 e2 w).below hb1
  clear hb1 HV
  obtain ⟨hc, hs, he, hr, hfs, hfr, hlt, hbe⟩ := id B1
  have HB1 := Aside0.mk B1
  clear B1 hbe
  go_wp2_with fail
  refine (chargeparkref12_Fits.calls _ _ _ _ _ _ _ _ _ _ _ true _ HF.out).mono ?_
  rintro e w2 ⟨rfl, hb2⟩
  have B2 := HB1.out.below hb2
  clear HB1 hb2 HF hc hs he hr hfs hfr hlt
  obtain ⟨hc, hs, he, hr, hfs, hfr, hlt, hbe⟩ := B2
  have HBE := Aside0.mk hbe
  clear hbe
  have hl1 : w.heap.size + 1 < w2.heap.size := by omega
  have hl2 : w.heap.size + 1 + 1 < w2.heap.size := by omega
  go_wp2_with fail
  clear hc
  have hz2 : ∀ W : World, Below w2.heap.size w2 W → W.cell? ⟨w.heap.size + 1, 0, none⟩ = some (.int .i64 s0) ∧ W.cell? ⟨w.heap.size + 1, 1, none⟩ = some (.int .i64 s1) ∧ W.cell? ⟨w.heap.size + 1, 2, none⟩ = some (.int .i64 s2) ∧ W.cell? ⟨w.heap.size + 1, 3, none⟩ = some (.bool s3) ∧ W.cell? ⟨w.heap.size + 1 + 1, 0, none⟩ = some (.int .i64 e0) ∧ W.cell? ⟨w.heap.size + 1 + 1, 1, none⟩ = some (.int .i64 e1) ∧ W.cell? ⟨w.heap.size + 1 + 1, 2, none⟩ = some (.int .i64 e2) ∧ Below w2.heap.size w2 W := fun W hW => ⟨(hW.cell (by simp; omega)).trans (hs 0), (hW.cell (by simp; omega)).trans (hs 1), (hW.cell (by simp; omega)).trans (hs 2), (hW.cell (by simp; omega)).trans (hs 3), (hW.cell (by simp; omega)).trans (he 0), (hW.cell (by simp; omega)).trans (he 1), (hW.cell (by simp; omega)).trans (he 2), hW⟩
  have HZ := Lib.hid hz2
  clear hz2
  go_region_held3 (fun x => x.cell? ⟨w.heap.size + 1, 0, none⟩ = some (.int .i64 s0) ∧ x.cell? ⟨w.heap.size + 1, 1, none⟩ = some (.int .i64 s1) ∧ x.cell? ⟨w.heap.size + 1, 2, none⟩ = some (.int .i64 s2) ∧ x.cell? ⟨w.heap.size + 1, 3, none⟩ = some (.bool s3) ∧ x.cell? ⟨w.heap.size + 1 + 1, 0, none⟩ = some (.int .i64 e0) ∧ x.cell? ⟨w.heap.size + 1 + 1, 1, none⟩ = some (.int .i64 e1) ∧ x.cell? ⟨w.heap.size + 1 + 1, 2, none⟩ = some (.int .i64 e2) ∧ Below w2.heap.size w2 x) (exact HZ.out _ (by repeat (first | exact Below.refl _ _ | (with_reducible apply below_alloc) | (with_reducible apply pw_below_drewN) | (with_reducible apply below_drew1) | (refine Below.setCell ?_ (by simp) _) | (refine Below.trans ?_ (hb3.mono (by simp))))))
    (first | (go_at_call 25; refine (chargeparkref12_phase.calls 9 _ _ _ _ _ _ _ _ _ HP.out).mono ?_; rintro e w3 ⟨rfl, hb3⟩; obtain ⟨hc3, hf3⟩ := bcell hb3; have hz3 := hb3.size))
  · rename_i hH_
    clear hH_
    have hO : Outs w3.heap.size T s1 s2 s3 w2 (w3.alloc (.cells #[.int .i64 T, .int .i64 s1, .int .i64 s2, .bool s3] 25)) := Outs.late (by repeat (first | exact Below.refl _ _ | (with_reducible apply below_alloc) | (with_reducible apply below_drew1) | (refine Below.trans ?_ (hb3.mono (by simp))))) _
    generalize (w3.alloc (.cells #[.int .i64 T, .int .i64 s1, .int .i64 s2, .bool s3] 25)) = W at hO ⊢
    generalize w3.heap.size = g at hO ⊢
    clear hb3 hc3 hf3 hz3
    obtain ⟨ho, hfo, hbO, hge⟩ := hO
    have ms : ∀ o, W.cell? ⟨w.heap.size + 1, o, none⟩ = #[Value.int .i64 s0, .int .i64 s1, .int .i64 s2, .bool s3][o]? := fun o => (hbO.cell (by simp; omega)).trans (hs o)
    have me : ∀ o, W.cell? ⟨w.heap.size + 1 + 1, o, none⟩ = #[Value.int .i64 e0, .int .i64 e1, .int .i64 e2][o]? := fun o => (hbO.cell (by simp; omega)).trans (he o)
    have mr : ∀ o, W.cell? ⟨w.heap.size + 1 + 1 + 1, o, none⟩ = #[Value.int .i64 0, .int .i64 0, .int .i64 0, .bool false][o]? := fun o => (hbO.cell (by simp; omega)).trans (hr o)
    have mfr : ∀ o, W.frozen? ⟨w.heap.size + 1 + 1 + 1, o, none⟩ = false := fun o => (hbO.frozen (by simp; omega)).trans (hfr o)
    have MB : Aside0 (Below w.heap.size w W) := Aside0.mk (HBE.out.trans (hbO.mono (by omega)))
    have g1 : g ≠ w.heap.size + 1 := by omega
    have g2 : g ≠ w.heap.size + 1 + 1 := by omega
    have g3 : g ≠ w.heap.size + 1 + 1 + 1 := by omega
    have g4 : w.heap.size ≤ g := by omega
    have n1 : w.heap.size + 1 ≠ g := by omega
    have n2 : w.heap.size + 1 + 1 ≠ g := by omega
    have n3 : w.heap.size + 1 + 1 + 1 ≠ g := by omega
    clear hs he hr hfs hfr hlt HBE hl1 hl2 HZ HP hbO hge
    clear hk0 hk1
    obtain rfl := hk.out
    clear hk
    go_upto_region 12 with (fail)
    go_upto_region 19 with (fail)
    go_upto_region 23 with (fail)
    go_wp2_with fail
    refine bodyPost_ret (v := .tuple #[.agg #[.int .i64 T, .int .i64 e1, .int .i64 e2, .bool s3], .int .i64 0]) (results_c4 _ _ (w.heap.size + 1 + 1 + 1) _ _ _ _ _ rfl rfl (row_put4 (z0 := .int .i64 0) (z1 := .int .i64 0) (z2 := .int .i64 0) (z3 := .bool false) ?_ _ _ _ _)) rfl ⟨by simp [refW, hn.out], ?_⟩
    · with_reducible repeat (first | exact mr | refine row_far ?_ g3)
    · repeat (first | (with_reducible exact MB.out) | (refine Below.setCell ?_ (by simp only []; omega) _))
  · rename_i hH_
    clear hH_
    have hO : Outs w2.heap.size T s1 s2 s3 w2 ((((w3.setCell ⟨w2.heap.size, 0, none⟩ (.int .i64 T)).setCell ⟨w2.heap.size, 1, none⟩ (.int .i64 s1)).setCell ⟨w2.heap.size, 2, none⟩ (.int .i64 s2)).setCell ⟨w2.heap.size, 3, none⟩ (.bool s3)) := Outs.early (z0 := .int .i64 0) (z1 := .int .i64 0) (z2 := .int .i64 0) (z3 := .bool false) (fun o => (hb3.cell (by simp)).trans (by simp)) (fun o => (hb3.frozen (by simp)).trans (by simp)) (by repeat (first | exact Below.refl _ _ | (with_reducible apply below_alloc) | (with_reducible apply below_drew1) | (refine Below.trans ?_ (hb3.mono (by simp)))))
    generalize ((((w3.setCell ⟨w2.heap.size, 0, none⟩ (.int .i64 T)).setCell ⟨w2.heap.size, 1, none⟩ (.int .i64 s1)).setCell ⟨w2.heap.size, 2, none⟩ (.int .i64 s2)).setCell ⟨w2.heap.size, 3, none⟩ (.bool s3)) = W at hO ⊢
    generalize w2.heap.size = g at hO ⊢
    clear hb3 hc3 hf3 hz3
    obtain ⟨ho, hfo, hbO, hge⟩ := hO
    have ms : ∀ o, W.cell? ⟨w.heap.size + 1, o, none⟩ = #[Value.int .i64 s0, .int .i64 s1, .int .i64 s2, .bool s3][o]? := fun o => (hbO.cell (by simp; omega)).trans (hs o)
    have me : ∀ o, W.cell? ⟨w.heap.size + 1 + 1, o, none⟩ = #[Value.int .i64 e0, .int .i64 e1, .int .i64 e2][o]? := fun o => (hbO.cell (by simp; omega)).trans (he o)
    have mr : ∀ o, W.cell? ⟨w.heap.size + 1 + 1 + 1, o, none⟩ = #[Value.int .i64 0, .int .i64 0, .int .i64 0, .bool false][o]? := fun o => (hbO.cell (by simp; omega)).trans (hr o)
    have mfr : ∀ o, W.frozen? ⟨w.heap.size + 1 + 1 + 1, o, none⟩ = false := fun o => (hbO.frozen (by simp; omega)).trans (hfr o)
    have MB : Aside0 (Below w.heap.size w W) := Aside0.mk (HBE.out.trans (hbO.mono (by omega)))
    have g1 : g ≠ w.heap.size + 1 := by omega
    have g2 : g ≠ w.heap.size + 1 + 1 := by omega
    have g3 : g ≠ w.heap.size + 1 + 1 + 1 := by omega
    have g4 : w.heap.size ≤ g := by omega
    have n1 : w.heap.size + 1 ≠ g := by omega
    have n2 : w.heap.size + 1 + 1 ≠ g := by omega
    have n3 : w.heap.size + 1 + 1 + 1 ≠ g := by omega
    clear hs he hr hfs hfr hlt HBE hl1 hl2 HZ HP hbO hge
    clear hk0 hk1
    obtain rfl := hk.out
    clear hk
    go_upto_region 12 with (fail)
    go_upto_region 19 with (fail)
    go_upto_region 23 with (fail)
    go_wp2_with fail
    refine bodyPost_ret (v := .tuple #[.agg #[.int .i64 T, .int .i64 e1, .int .i64 e2, .bool s3], .int .i64 0]) (results_c4 _ _ (w.heap.size + 1 + 1 + 1) _ _ _ _ _ rfl rfl (row_put4 (z0 := .int .i64 0) (z1 := .int .i64 0) (z2 := .int .i64 0) (z3 := .bool false) ?_ _ _ _ _)) rfl ⟨by simp [refW, hn.out], ?_⟩
    · with_reducible repeat (first | exact mr | refine row_far ?_ g3)
    · repeat (first | (with_reducible exact MB.out) | (refine Below.setCell ?_ (by simp only []; omega) _))

set_option maxHeartbeats 8000000 in
set_option maxRecDepth 100000 in
theorem rstep_8a (c0 : ByteArray) (c1 c2 c3 c4 c5 c6 c7 s0 s1 s2 : Int) (s3 : Bool) (e0 e1 e2 : Int) (w : World) (hv : chargeparkref12_Valid.f 9 c0 c1 c2 c3 c4 c5 c6 c7 s0 s1 s2 s3 = some true) (hf : chargeparkref12_Fits.f c0 c1 c2 c3 c4 c5 c6 c7 e0 e1 e2 = some true) (hk0 : decide (e0 < 1) = false) (hk1 : decide (9 < e0) = false) (T : Int) (hp : chargeparkref12_phase.f 9 s0 s1 s2 s3 e0 e1 e2 = some T) (hT : decide (T < 0) = false) (hk : Hid (e0 = 8)) (hl : 1 < s2) (hl1_ : s2 ≤ 1000000) :
    Calls Tryd.prog 12 #[.agg #[.string c0, .int .i64 c1, .int .i64 c2, .int .i64 c3, .int .i64 c4, .int .i64 c5, .int .i64 c6, .int .i64 c7], .agg #[.int .i64 s0, .int .i64 s1, .int .i64 s2, .bool s3], .agg #[.int .i64 e0, .int .i64 e1, .int .i64 e2]] w
      fun e w' => e = .returned (.tuple #[.agg #[.int .i64 (refW T s1 s2 s3 e0 e1 e2).1, .int .i64 (refW T s1 s2 s3 e0 e1 e2).2.1, .int .i64 (refW T s1 s2 s3 e0 e1 e2).2.2.1, .bool (refW T s1 s2 s3 e0 e1 e2).2.2.2], .int .i64 0]) ∧ Below w.heap.size w w' := by
  have HP := Aside0.mk hp
  clear hp
  have HV := Aside0.mk hv
  have HF := Aside0.mk hf
  clear hv hf
  go_enter Tryd.func12, Tryd.ntmps12
  go_wp2_with fail
  refine (chargeparkref12_Valid.calls 9 _ _ _ _ _ _ _ _ _ _ _ _ true _ HV.out).mono ?_
  rintro e w1 ⟨rfl, hb1⟩
  have B1 := (Boxes.start c0 c1 c2 c3 c4 c5 c6 c7 s0 s1 s2 s3 e0 e1 e2 w).below hb1
  clear hb1 HV
  obtain ⟨hc, hs, he, hr, hfs, hfr, hlt, hbe⟩ := id B1
  have HB1 := Aside0.mk B1
  clear B1 hbe
  go_wp2_with fail
  refine (chargeparkref12_Fits.calls _ _ _ _ _ _ _ _ _ _ _ true _ HF.out).mono ?_
  rintro e w2 ⟨rfl, hb2⟩
  have B2 := HB1.out.below hb2
  clear HB1 hb2 HF hc hs he hr hfs hfr hlt
  obtain ⟨hc, hs, he, hr, hfs, hfr, hlt, hbe⟩ := B2
  have HBE := Aside0.mk hbe
  clear hbe
  have hl1 : w.heap.size + 1 < w2.heap.size := by omega
  have hl2 : w.heap.size + 1 + 1 < w2.heap.size := by omega
  go_wp2_with fail
  clear hc
  have hz2 : ∀ W : World, Below w2.heap.size w2 W → W.cell? ⟨w.heap.size + 1, 0, none⟩ = some (.int .i64 s0) ∧ W.cell? ⟨w.heap.size + 1, 1, none⟩ = some (.int .i64 s1) ∧ W.cell? ⟨w.heap.size + 1, 2, none⟩ = some (.int .i64 s2) ∧ W.cell? ⟨w.heap.size + 1, 3, none⟩ = some (.bool s3) ∧ W.cell? ⟨w.heap.size + 1 + 1, 0, none⟩ = some (.int .i64 e0) ∧ W.cell? ⟨w.heap.size + 1 + 1, 1, none⟩ = some (.int .i64 e1) ∧ W.cell? ⟨w.heap.size + 1 + 1, 2, none⟩ = some (.int .i64 e2) ∧ Below w2.heap.size w2 W := fun W hW => ⟨(hW.cell (by simp; omega)).trans (hs 0), (hW.cell (by simp; omega)).trans (hs 1), (hW.cell (by simp; omega)).trans (hs 2), (hW.cell (by simp; omega)).trans (hs 3), (hW.cell (by simp; omega)).trans (he 0), (hW.cell (by simp; omega)).trans (he 1), (hW.cell (by simp; omega)).trans (he 2), hW⟩
  have HZ := Lib.hid hz2
  clear hz2
  go_region_held3 (fun x => x.cell? ⟨w.heap.size + 1, 0, none⟩ = some (.int .i64 s0) ∧ x.cell? ⟨w.heap.size + 1, 1, none⟩ = some (.int .i64 s1) ∧ x.cell? ⟨w.heap.size + 1, 2, none⟩ = some (.int .i64 s2) ∧ x.cell? ⟨w.heap.size + 1, 3, none⟩ = some (.bool s3) ∧ x.cell? ⟨w.heap.size + 1 + 1, 0, none⟩ = some (.int .i64 e0) ∧ x.cell? ⟨w.heap.size + 1 + 1, 1, none⟩ = some (.int .i64 e1) ∧ x.cell? ⟨w.heap.size + 1 + 1, 2, none⟩ = some (.int .i64 e2) ∧ Below w2.heap.size w2 x) (exact HZ.out _ (by repeat (first | exact Below.refl _ _ | (with_reducible apply below_alloc) | (with_reducible apply pw_below_drewN) | (with_reducible apply below_drew1) | (refine Below.setCell ?_ (by simp) _) | (refine Below.trans ?_ (hb3.mono (by simp))))))
    (first | (go_at_call 25; refine (chargeparkref12_phase.calls 9 _ _ _ _ _ _ _ _ _ HP.out).mono ?_; rintro e w3 ⟨rfl, hb3⟩; obtain ⟨hc3, hf3⟩ := bcell hb3; have hz3 := hb3.size))
  · rename_i hH_
    clear hH_
    have hO : Outs w3.heap.size T s1 s2 s3 w2 (w3.alloc (.cells #[.int .i64 T, .int .i64 s1, .int .i64 s2, .bool s3] 25)) := Outs.late (by repeat (first | exact Below.refl _ _ | (with_reducible apply below_alloc) | (with_reducible apply below_drew1) | (refine Below.trans ?_ (hb3.mono (by simp))))) _
    generalize (w3.alloc (.cells #[.int .i64 T, .int .i64 s1, .int .i64 s2, .bool s3] 25)) = W at hO ⊢
    generalize w3.heap.size = g at hO ⊢
    clear hb3 hc3 hf3 hz3
    obtain ⟨ho, hfo, hbO, hge⟩ := hO
    have ms : ∀ o, W.cell? ⟨w.heap.size + 1, o, none⟩ = #[Value.int .i64 s0, .int .i64 s1, .int .i64 s2, .bool s3][o]? := fun o => (hbO.cell (by simp; omega)).trans (hs o)
    have me : ∀ o, W.cell? ⟨w.heap.size + 1 + 1, o, none⟩ = #[Value.int .i64 e0, .int .i64 e1, .int .i64 e2][o]? := fun o => (hbO.cell (by simp; omega)).trans (he o)
    have mr : ∀ o, W.cell? ⟨w.heap.size + 1 + 1 + 1, o, none⟩ = #[Value.int .i64 0, .int .i64 0, .int .i64 0, .bool false][o]? := fun o => (hbO.cell (by simp; omega)).trans (hr o)
    have mfr : ∀ o, W.frozen? ⟨w.heap.size + 1 + 1 + 1, o, none⟩ = false := fun o => (hbO.frozen (by simp; omega)).trans (hfr o)
    have MB : Aside0 (Below w.heap.size w W) := Aside0.mk (HBE.out.trans (hbO.mono (by omega)))
    have g1 : g ≠ w.heap.size + 1 := by omega
    have g2 : g ≠ w.heap.size + 1 + 1 := by omega
    have g3 : g ≠ w.heap.size + 1 + 1 + 1 := by omega
    have g4 : w.heap.size ≤ g := by omega
    have n1 : w.heap.size + 1 ≠ g := by omega
    have n2 : w.heap.size + 1 + 1 ≠ g := by omega
    have n3 : w.heap.size + 1 + 1 + 1 ≠ g := by omega
    clear hs he hr hfs hfr hlt HBE hl1 hl2 HZ HP hbO hge
    clear hk0 hk1
    obtain rfl := hk.out
    clear hk
    have hq : (s2 - 1 == 0) = false := beq_eq_false_iff_ne.2 (by omega)
    go_upto_region 12 with (fail)
    go_upto_region 19 with (fail)
    go_upto_region 23 with (fail)
    go_wp2_with fail
    refine bodyPost_ret (v := .tuple #[.agg #[.int .i64 T, .int .i64 s1, .int .i64 (s2 - 1), .bool s3], .int .i64 0]) (results_c4 _ _ (w.heap.size + 1 + 1 + 1) _ _ _ _ _ rfl rfl (row_put4 (z0 := .int .i64 0) (z1 := .int .i64 0) (z2 := .int .i64 0) (z3 := .bool false) ?_ _ _ _ _)) rfl ⟨by simp [refW, hl], ?_⟩
    · with_reducible repeat (first | exact mr | refine row_far ?_ g3)
    · repeat (first | (with_reducible exact MB.out) | (refine Below.setCell ?_ (by simp only []; omega) _))
  · rename_i hH_
    clear hH_
    have hO : Outs w2.heap.size T s1 s2 s3 w2 ((((w3.setCell ⟨w2.heap.size, 0, none⟩ (.int .i64 T)).setCell ⟨w2.heap.size, 1, none⟩ (.int .i64 s1)).setCell ⟨w2.heap.size, 2, none⟩ (.int .i64 s2)).setCell ⟨w2.heap.size, 3, none⟩ (.bool s3)) := Outs.early (z0 := .int .i64 0) (z1 := .int .i64 0) (z2 := .int .i64 0) (z3 := .bool false) (fun o => (hb3.cell (by simp)).trans (by simp)) (fun o => (hb3.frozen (by simp)).trans (by simp)) (by repeat (first | exact Below.refl _ _ | (with_reducible apply below_alloc) | (with_reducible apply below_drew1) | (refine Below.trans ?_ (hb3.mono (by simp)))))
    generalize ((((w3.setCell ⟨w2.heap.size, 0, none⟩ (.int .i64 T)).setCell ⟨w2.heap.size, 1, none⟩ (.int .i64 s1)).setCell ⟨w2.heap.size, 2, none⟩ (.int .i64 s2)).setCell ⟨w2.heap.size, 3, none⟩ (.bool s3)) = W at hO ⊢
    generalize w2.heap.size = g at hO ⊢
    clear hb3 hc3 hf3 hz3
    obtain ⟨ho, hfo, hbO, hge⟩ := hO
    have ms : ∀ o, W.cell? ⟨w.heap.size + 1, o, none⟩ = #[Value.int .i64 s0, .int .i64 s1, .int .i64 s2, .bool s3][o]? := fun o => (hbO.cell (by simp; omega)).trans (hs o)
    have me : ∀ o, W.cell? ⟨w.heap.size + 1 + 1, o, none⟩ = #[Value.int .i64 e0, .int .i64 e1, .int .i64 e2][o]? := fun o => (hbO.cell (by simp; omega)).trans (he o)
    have mr : ∀ o, W.cell? ⟨w.heap.size + 1 + 1 + 1, o, none⟩ = #[Value.int .i64 0, .int .i64 0, .int .i64 0, .bool false][o]? := fun o => (hbO.cell (by simp; omega)).trans (hr o)
    have mfr : ∀ o, W.frozen? ⟨w.heap.size + 1 + 1 + 1, o, none⟩ = false := fun o => (hbO.frozen (by simp; omega)).trans (hfr o)
    have MB : Aside0 (Below w.heap.size w W) := Aside0.mk (HBE.out.trans (hbO.mono (by omega)))
    have g1 : g ≠ w.heap.size + 1 := by omega
    have g2 : g ≠ w.heap.size + 1 + 1 := by omega
    have g3 : g ≠ w.heap.size + 1 + 1 + 1 := by omega
    have g4 : w.heap.size ≤ g := by omega
    have n1 : w.heap.size + 1 ≠ g := by omega
    have n2 : w.heap.size + 1 + 1 ≠ g := by omega
    have n3 : w.heap.size + 1 + 1 + 1 ≠ g := by omega
    clear hs he hr hfs hfr hlt HBE hl1 hl2 HZ HP hbO hge
    clear hk0 hk1
    obtain rfl := hk.out
    clear hk
    have hq : (s2 - 1 == 0) = false := beq_eq_false_iff_ne.2 (by omega)
    go_upto_region 12 with (fail)
    go_upto_region 19 with (fail)
    go_upto_region 23 with (fail)
    go_wp2_with fail
    refine bodyPost_ret (v := .tuple #[.agg #[.int .i64 T, .int .i64 s1, .int .i64 (s2 - 1), .bool s3], .int .i64 0]) (results_c4 _ _ (w.heap.size + 1 + 1 + 1) _ _ _ _ _ rfl rfl (row_put4 (z0 := .int .i64 0) (z1 := .int .i64 0) (z2 := .int .i64 0) (z3 := .bool false) ?_ _ _ _ _)) rfl ⟨by simp [refW, hl], ?_⟩
    · with_reducible repeat (first | exact mr | refine row_far ?_ g3)
    · repeat (first | (with_reducible exact MB.out) | (refine Below.setCell ?_ (by simp only []; omega) _))

set_option maxHeartbeats 8000000 in
set_option maxRecDepth 100000 in
theorem rstep_8b (c0 : ByteArray) (c1 c2 c3 c4 c5 c6 c7 s0 s1 s2 : Int) (s3 : Bool) (e0 e1 e2 : Int) (w : World) (hv : chargeparkref12_Valid.f 9 c0 c1 c2 c3 c4 c5 c6 c7 s0 s1 s2 s3 = some true) (hf : chargeparkref12_Fits.f c0 c1 c2 c3 c4 c5 c6 c7 e0 e1 e2 = some true) (hk0 : decide (e0 < 1) = false) (hk1 : decide (9 < e0) = false) (T : Int) (hp : chargeparkref12_phase.f 9 s0 s1 s2 s3 e0 e1 e2 = some T) (hT : decide (T < 0) = false) (hk : Hid (e0 = 8)) (hl : Hid (s2 = 0)) :
    Calls Tryd.prog 12 #[.agg #[.string c0, .int .i64 c1, .int .i64 c2, .int .i64 c3, .int .i64 c4, .int .i64 c5, .int .i64 c6, .int .i64 c7], .agg #[.int .i64 s0, .int .i64 s1, .int .i64 s2, .bool s3], .agg #[.int .i64 e0, .int .i64 e1, .int .i64 e2]] w
      fun e w' => e = .returned (.tuple #[.agg #[.int .i64 (refW T s1 s2 s3 e0 e1 e2).1, .int .i64 (refW T s1 s2 s3 e0 e1 e2).2.1, .int .i64 (refW T s1 s2 s3 e0 e1 e2).2.2.1, .bool (refW T s1 s2 s3 e0 e1 e2).2.2.2], .int .i64 0]) ∧ Below w.heap.size w w' := by
  have HP := Aside0.mk hp
  clear hp
  have HV := Aside0.mk hv
  have HF := Aside0.mk hf
  clear hv hf
  go_enter Tryd.func12, Tryd.ntmps12
  go_wp2_with fail
  refine (chargeparkref12_Valid.calls 9 _ _ _ _ _ _ _ _ _ _ _ _ true _ HV.out).mono ?_
  rintro e w1 ⟨rfl, hb1⟩
  have B1 := (Boxes.start c0 c1 c2 c3 c4 c5 c6 c7 s0 s1 s2 s3 e0 e1 e2 w).below hb1
  clear hb1 HV
  obtain ⟨hc, hs, he, hr, hfs, hfr, hlt, hbe⟩ := id B1
  have HB1 := Aside0.mk B1
  clear B1 hbe
  go_wp2_with fail
  refine (chargeparkref12_Fits.calls _ _ _ _ _ _ _ _ _ _ _ true _ HF.out).mono ?_
  rintro e w2 ⟨rfl, hb2⟩
  have B2 := HB1.out.below hb2
  clear HB1 hb2 HF hc hs he hr hfs hfr hlt
  obtain ⟨hc, hs, he, hr, hfs, hfr, hlt, hbe⟩ := B2
  have HBE := Aside0.mk hbe
  clear hbe
  have hl1 : w.heap.size + 1 < w2.heap.size := by omega
  have hl2 : w.heap.size + 1 + 1 < w2.heap.size := by omega
  go_wp2_with fail
  clear hc
  have hz2 : ∀ W : World, Below w2.heap.size w2 W → W.cell? ⟨w.heap.size + 1, 0, none⟩ = some (.int .i64 s0) ∧ W.cell? ⟨w.heap.size + 1, 1, none⟩ = some (.int .i64 s1) ∧ W.cell? ⟨w.heap.size + 1, 2, none⟩ = some (.int .i64 s2) ∧ W.cell? ⟨w.heap.size + 1, 3, none⟩ = some (.bool s3) ∧ W.cell? ⟨w.heap.size + 1 + 1, 0, none⟩ = some (.int .i64 e0) ∧ W.cell? ⟨w.heap.size + 1 + 1, 1, none⟩ = some (.int .i64 e1) ∧ W.cell? ⟨w.heap.size + 1 + 1, 2, none⟩ = some (.int .i64 e2) ∧ Below w2.heap.size w2 W := fun W hW => ⟨(hW.cell (by simp; omega)).trans (hs 0), (hW.cell (by simp; omega)).trans (hs 1), (hW.cell (by simp; omega)).trans (hs 2), (hW.cell (by simp; omega)).trans (hs 3), (hW.cell (by simp; omega)).trans (he 0), (hW.cell (by simp; omega)).trans (he 1), (hW.cell (by simp; omega)).trans (he 2), hW⟩
  have HZ := Lib.hid hz2
  clear hz2
  go_region_held3 (fun x => x.cell? ⟨w.heap.size + 1, 0, none⟩ = some (.int .i64 s0) ∧ x.cell? ⟨w.heap.size + 1, 1, none⟩ = some (.int .i64 s1) ∧ x.cell? ⟨w.heap.size + 1, 2, none⟩ = some (.int .i64 s2) ∧ x.cell? ⟨w.heap.size + 1, 3, none⟩ = some (.bool s3) ∧ x.cell? ⟨w.heap.size + 1 + 1, 0, none⟩ = some (.int .i64 e0) ∧ x.cell? ⟨w.heap.size + 1 + 1, 1, none⟩ = some (.int .i64 e1) ∧ x.cell? ⟨w.heap.size + 1 + 1, 2, none⟩ = some (.int .i64 e2) ∧ Below w2.heap.size w2 x) (exact HZ.out _ (by repeat (first | exact Below.refl _ _ | (with_reducible apply below_alloc) | (with_reducible apply pw_below_drewN) | (with_reducible apply below_drew1) | (refine Below.setCell ?_ (by simp) _) | (refine Below.trans ?_ (hb3.mono (by simp))))))
    (first | (go_at_call 25; refine (chargeparkref12_phase.calls 9 _ _ _ _ _ _ _ _ _ HP.out).mono ?_; rintro e w3 ⟨rfl, hb3⟩; obtain ⟨hc3, hf3⟩ := bcell hb3; have hz3 := hb3.size))
  · rename_i hH_
    clear hH_
    have hO : Outs w3.heap.size T s1 s2 s3 w2 (w3.alloc (.cells #[.int .i64 T, .int .i64 s1, .int .i64 s2, .bool s3] 25)) := Outs.late (by repeat (first | exact Below.refl _ _ | (with_reducible apply below_alloc) | (with_reducible apply below_drew1) | (refine Below.trans ?_ (hb3.mono (by simp))))) _
    generalize (w3.alloc (.cells #[.int .i64 T, .int .i64 s1, .int .i64 s2, .bool s3] 25)) = W at hO ⊢
    generalize w3.heap.size = g at hO ⊢
    clear hb3 hc3 hf3 hz3
    obtain ⟨ho, hfo, hbO, hge⟩ := hO
    have ms : ∀ o, W.cell? ⟨w.heap.size + 1, o, none⟩ = #[Value.int .i64 s0, .int .i64 s1, .int .i64 s2, .bool s3][o]? := fun o => (hbO.cell (by simp; omega)).trans (hs o)
    have me : ∀ o, W.cell? ⟨w.heap.size + 1 + 1, o, none⟩ = #[Value.int .i64 e0, .int .i64 e1, .int .i64 e2][o]? := fun o => (hbO.cell (by simp; omega)).trans (he o)
    have mr : ∀ o, W.cell? ⟨w.heap.size + 1 + 1 + 1, o, none⟩ = #[Value.int .i64 0, .int .i64 0, .int .i64 0, .bool false][o]? := fun o => (hbO.cell (by simp; omega)).trans (hr o)
    have mfr : ∀ o, W.frozen? ⟨w.heap.size + 1 + 1 + 1, o, none⟩ = false := fun o => (hbO.frozen (by simp; omega)).trans (hfr o)
    have MB : Aside0 (Below w.heap.size w W) := Aside0.mk (HBE.out.trans (hbO.mono (by omega)))
    have g1 : g ≠ w.heap.size + 1 := by omega
    have g2 : g ≠ w.heap.size + 1 + 1 := by omega
    have g3 : g ≠ w.heap.size + 1 + 1 + 1 := by omega
    have g4 : w.heap.size ≤ g := by omega
    have n1 : w.heap.size + 1 ≠ g := by omega
    have n2 : w.heap.size + 1 + 1 ≠ g := by omega
    have n3 : w.heap.size + 1 + 1 + 1 ≠ g := by omega
    clear hs he hr hfs hfr hlt HBE hl1 hl2 HZ HP hbO hge
    clear hk0 hk1
    obtain rfl := hk.out
    obtain rfl := hl.out
    clear hk hl
    go_upto_region 12 with (fail)
    go_upto_region 19 with (fail)
    go_upto_region 23 with (fail)
    go_wp2_with fail
    refine bodyPost_ret (v := .tuple #[.agg #[.int .i64 T, .int .i64 0, .int .i64 0, .bool s3], .int .i64 0]) (results_c4 _ _ (w.heap.size + 1 + 1 + 1) _ _ _ _ _ rfl rfl (row_put4 (z0 := .int .i64 0) (z1 := .int .i64 0) (z2 := .int .i64 0) (z3 := .bool false) ?_ _ _ _ _)) rfl ⟨by simp [refW], ?_⟩
    · with_reducible repeat (first | exact mr | refine row_far ?_ g3)
    · repeat (first | (with_reducible exact MB.out) | (refine Below.setCell ?_ (by simp only []; omega) _))
  · rename_i hH_
    clear hH_
    have hO : Outs w2.heap.size T s1 s2 s3 w2 ((((w3.setCell ⟨w2.heap.size, 0, none⟩ (.int .i64 T)).setCell ⟨w2.heap.size, 1, none⟩ (.int .i64 s1)).setCell ⟨w2.heap.size, 2, none⟩ (.int .i64 s2)).setCell ⟨w2.heap.size, 3, none⟩ (.bool s3)) := Outs.early (z0 := .int .i64 0) (z1 := .int .i64 0) (z2 := .int .i64 0) (z3 := .bool false) (fun o => (hb3.cell (by simp)).trans (by simp)) (fun o => (hb3.frozen (by simp)).trans (by simp)) (by repeat (first | exact Below.refl _ _ | (with_reducible apply below_alloc) | (with_reducible apply below_drew1) | (refine Below.trans ?_ (hb3.mono (by simp)))))
    generalize ((((w3.setCell ⟨w2.heap.size, 0, none⟩ (.int .i64 T)).setCell ⟨w2.heap.size, 1, none⟩ (.int .i64 s1)).setCell ⟨w2.heap.size, 2, none⟩ (.int .i64 s2)).setCell ⟨w2.heap.size, 3, none⟩ (.bool s3)) = W at hO ⊢
    generalize w2.heap.size = g at hO ⊢
    clear hb3 hc3 hf3 hz3
    obtain ⟨ho, hfo, hbO, hge⟩ := hO
    have ms : ∀ o, W.cell? ⟨w.heap.size + 1, o, none⟩ = #[Value.int .i64 s0, .int .i64 s1, .int .i64 s2, .bool s3][o]? := fun o => (hbO.cell (by simp; omega)).trans (hs o)
    have me : ∀ o, W.cell? ⟨w.heap.size + 1 + 1, o, none⟩ = #[Value.int .i64 e0, .int .i64 e1, .int .i64 e2][o]? := fun o => (hbO.cell (by simp; omega)).trans (he o)
    have mr : ∀ o, W.cell? ⟨w.heap.size + 1 + 1 + 1, o, none⟩ = #[Value.int .i64 0, .int .i64 0, .int .i64 0, .bool false][o]? := fun o => (hbO.cell (by simp; omega)).trans (hr o)
    have mfr : ∀ o, W.frozen? ⟨w.heap.size + 1 + 1 + 1, o, none⟩ = false := fun o => (hbO.frozen (by simp; omega)).trans (hfr o)
    have MB : Aside0 (Below w.heap.size w W) := Aside0.mk (HBE.out.trans (hbO.mono (by omega)))
    have g1 : g ≠ w.heap.size + 1 := by omega
    have g2 : g ≠ w.heap.size + 1 + 1 := by omega
    have g3 : g ≠ w.heap.size + 1 + 1 + 1 := by omega
    have g4 : w.heap.size ≤ g := by omega
    have n1 : w.heap.size + 1 ≠ g := by omega
    have n2 : w.heap.size + 1 + 1 ≠ g := by omega
    have n3 : w.heap.size + 1 + 1 + 1 ≠ g := by omega
    clear hs he hr hfs hfr hlt HBE hl1 hl2 HZ HP hbO hge
    clear hk0 hk1
    obtain rfl := hk.out
    obtain rfl := hl.out
    clear hk hl
    go_upto_region 12 with (fail)
    go_upto_region 19 with (fail)
    go_upto_region 23 with (fail)
    go_wp2_with fail
    refine bodyPost_ret (v := .tuple #[.agg #[.int .i64 T, .int .i64 0, .int .i64 0, .bool s3], .int .i64 0]) (results_c4 _ _ (w.heap.size + 1 + 1 + 1) _ _ _ _ _ rfl rfl (row_put4 (z0 := .int .i64 0) (z1 := .int .i64 0) (z2 := .int .i64 0) (z3 := .bool false) ?_ _ _ _ _)) rfl ⟨by simp [refW], ?_⟩
    · with_reducible repeat (first | exact mr | refine row_far ?_ g3)
    · repeat (first | (with_reducible exact MB.out) | (refine Below.setCell ?_ (by simp only []; omega) _))

set_option maxHeartbeats 8000000 in
set_option maxRecDepth 100000 in
theorem rstep_8c (c0 : ByteArray) (c1 c2 c3 c4 c5 c6 c7 s0 s1 s2 : Int) (s3 : Bool) (e0 e1 e2 : Int) (w : World) (hv : chargeparkref12_Valid.f 9 c0 c1 c2 c3 c4 c5 c6 c7 s0 s1 s2 s3 = some true) (hf : chargeparkref12_Fits.f c0 c1 c2 c3 c4 c5 c6 c7 e0 e1 e2 = some true) (hk0 : decide (e0 < 1) = false) (hk1 : decide (9 < e0) = false) (T : Int) (hp : chargeparkref12_phase.f 9 s0 s1 s2 s3 e0 e1 e2 = some T) (hT : decide (T < 0) = false) (hk : Hid (e0 = 8)) (hl : Hid (s2 = 1)) :
    Calls Tryd.prog 12 #[.agg #[.string c0, .int .i64 c1, .int .i64 c2, .int .i64 c3, .int .i64 c4, .int .i64 c5, .int .i64 c6, .int .i64 c7], .agg #[.int .i64 s0, .int .i64 s1, .int .i64 s2, .bool s3], .agg #[.int .i64 e0, .int .i64 e1, .int .i64 e2]] w
      fun e w' => e = .returned (.tuple #[.agg #[.int .i64 (refW T s1 s2 s3 e0 e1 e2).1, .int .i64 (refW T s1 s2 s3 e0 e1 e2).2.1, .int .i64 (refW T s1 s2 s3 e0 e1 e2).2.2.1, .bool (refW T s1 s2 s3 e0 e1 e2).2.2.2], .int .i64 0]) ∧ Below w.heap.size w w' := by
  have HP := Aside0.mk hp
  clear hp
  have HV := Aside0.mk hv
  have HF := Aside0.mk hf
  clear hv hf
  go_enter Tryd.func12, Tryd.ntmps12
  go_wp2_with fail
  refine (chargeparkref12_Valid.calls 9 _ _ _ _ _ _ _ _ _ _ _ _ true _ HV.out).mono ?_
  rintro e w1 ⟨rfl, hb1⟩
  have B1 := (Boxes.start c0 c1 c2 c3 c4 c5 c6 c7 s0 s1 s2 s3 e0 e1 e2 w).below hb1
  clear hb1 HV
  obtain ⟨hc, hs, he, hr, hfs, hfr, hlt, hbe⟩ := id B1
  have HB1 := Aside0.mk B1
  clear B1 hbe
  go_wp2_with fail
  refine (chargeparkref12_Fits.calls _ _ _ _ _ _ _ _ _ _ _ true _ HF.out).mono ?_
  rintro e w2 ⟨rfl, hb2⟩
  have B2 := HB1.out.below hb2
  clear HB1 hb2 HF hc hs he hr hfs hfr hlt
  obtain ⟨hc, hs, he, hr, hfs, hfr, hlt, hbe⟩ := B2
  have HBE := Aside0.mk hbe
  clear hbe
  have hl1 : w.heap.size + 1 < w2.heap.size := by omega
  have hl2 : w.heap.size + 1 + 1 < w2.heap.size := by omega
  go_wp2_with fail
  clear hc
  have hz2 : ∀ W : World, Below w2.heap.size w2 W → W.cell? ⟨w.heap.size + 1, 0, none⟩ = some (.int .i64 s0) ∧ W.cell? ⟨w.heap.size + 1, 1, none⟩ = some (.int .i64 s1) ∧ W.cell? ⟨w.heap.size + 1, 2, none⟩ = some (.int .i64 s2) ∧ W.cell? ⟨w.heap.size + 1, 3, none⟩ = some (.bool s3) ∧ W.cell? ⟨w.heap.size + 1 + 1, 0, none⟩ = some (.int .i64 e0) ∧ W.cell? ⟨w.heap.size + 1 + 1, 1, none⟩ = some (.int .i64 e1) ∧ W.cell? ⟨w.heap.size + 1 + 1, 2, none⟩ = some (.int .i64 e2) ∧ Below w2.heap.size w2 W := fun W hW => ⟨(hW.cell (by simp; omega)).trans (hs 0), (hW.cell (by simp; omega)).trans (hs 1), (hW.cell (by simp; omega)).trans (hs 2), (hW.cell (by simp; omega)).trans (hs 3), (hW.cell (by simp; omega)).trans (he 0), (hW.cell (by simp; omega)).trans (he 1), (hW.cell (by simp; omega)).trans (he 2), hW⟩
  have HZ := Lib.hid hz2
  clear hz2
  go_region_held3 (fun x => x.cell? ⟨w.heap.size + 1, 0, none⟩ = some (.int .i64 s0) ∧ x.cell? ⟨w.heap.size + 1, 1, none⟩ = some (.int .i64 s1) ∧ x.cell? ⟨w.heap.size + 1, 2, none⟩ = some (.int .i64 s2) ∧ x.cell? ⟨w.heap.size + 1, 3, none⟩ = some (.bool s3) ∧ x.cell? ⟨w.heap.size + 1 + 1, 0, none⟩ = some (.int .i64 e0) ∧ x.cell? ⟨w.heap.size + 1 + 1, 1, none⟩ = some (.int .i64 e1) ∧ x.cell? ⟨w.heap.size + 1 + 1, 2, none⟩ = some (.int .i64 e2) ∧ Below w2.heap.size w2 x) (exact HZ.out _ (by repeat (first | exact Below.refl _ _ | (with_reducible apply below_alloc) | (with_reducible apply pw_below_drewN) | (with_reducible apply below_drew1) | (refine Below.setCell ?_ (by simp) _) | (refine Below.trans ?_ (hb3.mono (by simp))))))
    (first | (go_at_call 25; refine (chargeparkref12_phase.calls 9 _ _ _ _ _ _ _ _ _ HP.out).mono ?_; rintro e w3 ⟨rfl, hb3⟩; obtain ⟨hc3, hf3⟩ := bcell hb3; have hz3 := hb3.size))
  · rename_i hH_
    clear hH_
    have hO : Outs w3.heap.size T s1 s2 s3 w2 (w3.alloc (.cells #[.int .i64 T, .int .i64 s1, .int .i64 s2, .bool s3] 25)) := Outs.late (by repeat (first | exact Below.refl _ _ | (with_reducible apply below_alloc) | (with_reducible apply below_drew1) | (refine Below.trans ?_ (hb3.mono (by simp))))) _
    generalize (w3.alloc (.cells #[.int .i64 T, .int .i64 s1, .int .i64 s2, .bool s3] 25)) = W at hO ⊢
    generalize w3.heap.size = g at hO ⊢
    clear hb3 hc3 hf3 hz3
    obtain ⟨ho, hfo, hbO, hge⟩ := hO
    have ms : ∀ o, W.cell? ⟨w.heap.size + 1, o, none⟩ = #[Value.int .i64 s0, .int .i64 s1, .int .i64 s2, .bool s3][o]? := fun o => (hbO.cell (by simp; omega)).trans (hs o)
    have me : ∀ o, W.cell? ⟨w.heap.size + 1 + 1, o, none⟩ = #[Value.int .i64 e0, .int .i64 e1, .int .i64 e2][o]? := fun o => (hbO.cell (by simp; omega)).trans (he o)
    have mr : ∀ o, W.cell? ⟨w.heap.size + 1 + 1 + 1, o, none⟩ = #[Value.int .i64 0, .int .i64 0, .int .i64 0, .bool false][o]? := fun o => (hbO.cell (by simp; omega)).trans (hr o)
    have mfr : ∀ o, W.frozen? ⟨w.heap.size + 1 + 1 + 1, o, none⟩ = false := fun o => (hbO.frozen (by simp; omega)).trans (hfr o)
    have MB : Aside0 (Below w.heap.size w W) := Aside0.mk (HBE.out.trans (hbO.mono (by omega)))
    have g1 : g ≠ w.heap.size + 1 := by omega
    have g2 : g ≠ w.heap.size + 1 + 1 := by omega
    have g3 : g ≠ w.heap.size + 1 + 1 + 1 := by omega
    have g4 : w.heap.size ≤ g := by omega
    have n1 : w.heap.size + 1 ≠ g := by omega
    have n2 : w.heap.size + 1 + 1 ≠ g := by omega
    have n3 : w.heap.size + 1 + 1 + 1 ≠ g := by omega
    clear hs he hr hfs hfr hlt HBE hl1 hl2 HZ HP hbO hge
    clear hk0 hk1
    obtain rfl := hk.out
    obtain rfl := hl.out
    clear hk hl
    go_upto_region 12 with (fail)
    go_upto_region 19 with (fail)
    go_upto_region 23 with (fail)
    go_wp2_with fail
    refine bodyPost_ret (v := .tuple #[.agg #[.int .i64 T, .int .i64 0, .int .i64 0, .bool s3], .int .i64 0]) (results_c4 _ _ (w.heap.size + 1 + 1 + 1) _ _ _ _ _ rfl rfl (row_put4 (z0 := .int .i64 0) (z1 := .int .i64 0) (z2 := .int .i64 0) (z3 := .bool false) ?_ _ _ _ _)) rfl ⟨by simp [refW], ?_⟩
    · with_reducible repeat (first | exact mr | refine row_far ?_ g3)
    · repeat (first | (with_reducible exact MB.out) | (refine Below.setCell ?_ (by simp only []; omega) _))
  · rename_i hH_
    clear hH_
    have hO : Outs w2.heap.size T s1 s2 s3 w2 ((((w3.setCell ⟨w2.heap.size, 0, none⟩ (.int .i64 T)).setCell ⟨w2.heap.size, 1, none⟩ (.int .i64 s1)).setCell ⟨w2.heap.size, 2, none⟩ (.int .i64 s2)).setCell ⟨w2.heap.size, 3, none⟩ (.bool s3)) := Outs.early (z0 := .int .i64 0) (z1 := .int .i64 0) (z2 := .int .i64 0) (z3 := .bool false) (fun o => (hb3.cell (by simp)).trans (by simp)) (fun o => (hb3.frozen (by simp)).trans (by simp)) (by repeat (first | exact Below.refl _ _ | (with_reducible apply below_alloc) | (with_reducible apply below_drew1) | (refine Below.trans ?_ (hb3.mono (by simp)))))
    generalize ((((w3.setCell ⟨w2.heap.size, 0, none⟩ (.int .i64 T)).setCell ⟨w2.heap.size, 1, none⟩ (.int .i64 s1)).setCell ⟨w2.heap.size, 2, none⟩ (.int .i64 s2)).setCell ⟨w2.heap.size, 3, none⟩ (.bool s3)) = W at hO ⊢
    generalize w2.heap.size = g at hO ⊢
    clear hb3 hc3 hf3 hz3
    obtain ⟨ho, hfo, hbO, hge⟩ := hO
    have ms : ∀ o, W.cell? ⟨w.heap.size + 1, o, none⟩ = #[Value.int .i64 s0, .int .i64 s1, .int .i64 s2, .bool s3][o]? := fun o => (hbO.cell (by simp; omega)).trans (hs o)
    have me : ∀ o, W.cell? ⟨w.heap.size + 1 + 1, o, none⟩ = #[Value.int .i64 e0, .int .i64 e1, .int .i64 e2][o]? := fun o => (hbO.cell (by simp; omega)).trans (he o)
    have mr : ∀ o, W.cell? ⟨w.heap.size + 1 + 1 + 1, o, none⟩ = #[Value.int .i64 0, .int .i64 0, .int .i64 0, .bool false][o]? := fun o => (hbO.cell (by simp; omega)).trans (hr o)
    have mfr : ∀ o, W.frozen? ⟨w.heap.size + 1 + 1 + 1, o, none⟩ = false := fun o => (hbO.frozen (by simp; omega)).trans (hfr o)
    have MB : Aside0 (Below w.heap.size w W) := Aside0.mk (HBE.out.trans (hbO.mono (by omega)))
    have g1 : g ≠ w.heap.size + 1 := by omega
    have g2 : g ≠ w.heap.size + 1 + 1 := by omega
    have g3 : g ≠ w.heap.size + 1 + 1 + 1 := by omega
    have g4 : w.heap.size ≤ g := by omega
    have n1 : w.heap.size + 1 ≠ g := by omega
    have n2 : w.heap.size + 1 + 1 ≠ g := by omega
    have n3 : w.heap.size + 1 + 1 + 1 ≠ g := by omega
    clear hs he hr hfs hfr hlt HBE hl1 hl2 HZ HP hbO hge
    clear hk0 hk1
    obtain rfl := hk.out
    obtain rfl := hl.out
    clear hk hl
    go_upto_region 12 with (fail)
    go_upto_region 19 with (fail)
    go_upto_region 23 with (fail)
    go_wp2_with fail
    refine bodyPost_ret (v := .tuple #[.agg #[.int .i64 T, .int .i64 0, .int .i64 0, .bool s3], .int .i64 0]) (results_c4 _ _ (w.heap.size + 1 + 1 + 1) _ _ _ _ _ rfl rfl (row_put4 (z0 := .int .i64 0) (z1 := .int .i64 0) (z2 := .int .i64 0) (z3 := .bool false) ?_ _ _ _ _)) rfl ⟨by simp [refW], ?_⟩
    · with_reducible repeat (first | exact mr | refine row_far ?_ g3)
    · repeat (first | (with_reducible exact MB.out) | (refine Below.setCell ?_ (by simp only []; omega) _))

set_option maxHeartbeats 8000000 in
set_option maxRecDepth 100000 in
theorem rstep_9 (c0 : ByteArray) (c1 c2 c3 c4 c5 c6 c7 s0 s1 s2 : Int) (s3 : Bool) (e0 e1 e2 : Int) (w : World) (hv : chargeparkref12_Valid.f 9 c0 c1 c2 c3 c4 c5 c6 c7 s0 s1 s2 s3 = some true) (hf : chargeparkref12_Fits.f c0 c1 c2 c3 c4 c5 c6 c7 e0 e1 e2 = some true) (hk0 : decide (e0 < 1) = false) (hk1 : decide (9 < e0) = false) (T : Int) (hp : chargeparkref12_phase.f 9 s0 s1 s2 s3 e0 e1 e2 = some T) (hT : decide (T < 0) = false) (hk : Hid (e0 = 9)) :
    Calls Tryd.prog 12 #[.agg #[.string c0, .int .i64 c1, .int .i64 c2, .int .i64 c3, .int .i64 c4, .int .i64 c5, .int .i64 c6, .int .i64 c7], .agg #[.int .i64 s0, .int .i64 s1, .int .i64 s2, .bool s3], .agg #[.int .i64 e0, .int .i64 e1, .int .i64 e2]] w
      fun e w' => e = .returned (.tuple #[.agg #[.int .i64 (refW T s1 s2 s3 e0 e1 e2).1, .int .i64 (refW T s1 s2 s3 e0 e1 e2).2.1, .int .i64 (refW T s1 s2 s3 e0 e1 e2).2.2.1, .bool (refW T s1 s2 s3 e0 e1 e2).2.2.2], .int .i64 0]) ∧ Below w.heap.size w w' := by
  have HP := Aside0.mk hp
  clear hp
  have HV := Aside0.mk hv
  have HF := Aside0.mk hf
  clear hv hf
  go_enter Tryd.func12, Tryd.ntmps12
  go_wp2_with fail
  refine (chargeparkref12_Valid.calls 9 _ _ _ _ _ _ _ _ _ _ _ _ true _ HV.out).mono ?_
  rintro e w1 ⟨rfl, hb1⟩
  have B1 := (Boxes.start c0 c1 c2 c3 c4 c5 c6 c7 s0 s1 s2 s3 e0 e1 e2 w).below hb1
  clear hb1 HV
  obtain ⟨hc, hs, he, hr, hfs, hfr, hlt, hbe⟩ := id B1
  have HB1 := Aside0.mk B1
  clear B1 hbe
  go_wp2_with fail
  refine (chargeparkref12_Fits.calls _ _ _ _ _ _ _ _ _ _ _ true _ HF.out).mono ?_
  rintro e w2 ⟨rfl, hb2⟩
  have B2 := HB1.out.below hb2
  clear HB1 hb2 HF hc hs he hr hfs hfr hlt
  obtain ⟨hc, hs, he, hr, hfs, hfr, hlt, hbe⟩ := B2
  have HBE := Aside0.mk hbe
  clear hbe
  have hl1 : w.heap.size + 1 < w2.heap.size := by omega
  have hl2 : w.heap.size + 1 + 1 < w2.heap.size := by omega
  go_wp2_with fail
  clear hc
  have hz2 : ∀ W : World, Below w2.heap.size w2 W → W.cell? ⟨w.heap.size + 1, 0, none⟩ = some (.int .i64 s0) ∧ W.cell? ⟨w.heap.size + 1, 1, none⟩ = some (.int .i64 s1) ∧ W.cell? ⟨w.heap.size + 1, 2, none⟩ = some (.int .i64 s2) ∧ W.cell? ⟨w.heap.size + 1, 3, none⟩ = some (.bool s3) ∧ W.cell? ⟨w.heap.size + 1 + 1, 0, none⟩ = some (.int .i64 e0) ∧ W.cell? ⟨w.heap.size + 1 + 1, 1, none⟩ = some (.int .i64 e1) ∧ W.cell? ⟨w.heap.size + 1 + 1, 2, none⟩ = some (.int .i64 e2) ∧ Below w2.heap.size w2 W := fun W hW => ⟨(hW.cell (by simp; omega)).trans (hs 0), (hW.cell (by simp; omega)).trans (hs 1), (hW.cell (by simp; omega)).trans (hs 2), (hW.cell (by simp; omega)).trans (hs 3), (hW.cell (by simp; omega)).trans (he 0), (hW.cell (by simp; omega)).trans (he 1), (hW.cell (by simp; omega)).trans (he 2), hW⟩
  have HZ := Lib.hid hz2
  clear hz2
  go_region_held3 (fun x => x.cell? ⟨w.heap.size + 1, 0, none⟩ = some (.int .i64 s0) ∧ x.cell? ⟨w.heap.size + 1, 1, none⟩ = some (.int .i64 s1) ∧ x.cell? ⟨w.heap.size + 1, 2, none⟩ = some (.int .i64 s2) ∧ x.cell? ⟨w.heap.size + 1, 3, none⟩ = some (.bool s3) ∧ x.cell? ⟨w.heap.size + 1 + 1, 0, none⟩ = some (.int .i64 e0) ∧ x.cell? ⟨w.heap.size + 1 + 1, 1, none⟩ = some (.int .i64 e1) ∧ x.cell? ⟨w.heap.size + 1 + 1, 2, none⟩ = some (.int .i64 e2) ∧ Below w2.heap.size w2 x) (exact HZ.out _ (by repeat (first | exact Below.refl _ _ | (with_reducible apply below_alloc) | (with_reducible apply pw_below_drewN) | (with_reducible apply below_drew1) | (refine Below.setCell ?_ (by simp) _) | (refine Below.trans ?_ (hb3.mono (by simp))))))
    (first | (go_at_call 25; refine (chargeparkref12_phase.calls 9 _ _ _ _ _ _ _ _ _ HP.out).mono ?_; rintro e w3 ⟨rfl, hb3⟩; obtain ⟨hc3, hf3⟩ := bcell hb3; have hz3 := hb3.size))
  · rename_i hH_
    clear hH_
    have hO : Outs w3.heap.size T s1 s2 s3 w2 (w3.alloc (.cells #[.int .i64 T, .int .i64 s1, .int .i64 s2, .bool s3] 25)) := Outs.late (by repeat (first | exact Below.refl _ _ | (with_reducible apply below_alloc) | (with_reducible apply below_drew1) | (refine Below.trans ?_ (hb3.mono (by simp))))) _
    generalize (w3.alloc (.cells #[.int .i64 T, .int .i64 s1, .int .i64 s2, .bool s3] 25)) = W at hO ⊢
    generalize w3.heap.size = g at hO ⊢
    clear hb3 hc3 hf3 hz3
    obtain ⟨ho, hfo, hbO, hge⟩ := hO
    have ms : ∀ o, W.cell? ⟨w.heap.size + 1, o, none⟩ = #[Value.int .i64 s0, .int .i64 s1, .int .i64 s2, .bool s3][o]? := fun o => (hbO.cell (by simp; omega)).trans (hs o)
    have me : ∀ o, W.cell? ⟨w.heap.size + 1 + 1, o, none⟩ = #[Value.int .i64 e0, .int .i64 e1, .int .i64 e2][o]? := fun o => (hbO.cell (by simp; omega)).trans (he o)
    have mr : ∀ o, W.cell? ⟨w.heap.size + 1 + 1 + 1, o, none⟩ = #[Value.int .i64 0, .int .i64 0, .int .i64 0, .bool false][o]? := fun o => (hbO.cell (by simp; omega)).trans (hr o)
    have mfr : ∀ o, W.frozen? ⟨w.heap.size + 1 + 1 + 1, o, none⟩ = false := fun o => (hbO.frozen (by simp; omega)).trans (hfr o)
    have MB : Aside0 (Below w.heap.size w W) := Aside0.mk (HBE.out.trans (hbO.mono (by omega)))
    have g1 : g ≠ w.heap.size + 1 := by omega
    have g2 : g ≠ w.heap.size + 1 + 1 := by omega
    have g3 : g ≠ w.heap.size + 1 + 1 + 1 := by omega
    have g4 : w.heap.size ≤ g := by omega
    have n1 : w.heap.size + 1 ≠ g := by omega
    have n2 : w.heap.size + 1 + 1 ≠ g := by omega
    have n3 : w.heap.size + 1 + 1 + 1 ≠ g := by omega
    clear hs he hr hfs hfr hlt HBE hl1 hl2 HZ HP hbO hge
    clear hk0 hk1
    obtain rfl := hk.out
    clear hk
    go_upto_region 12 with (fail)
    go_upto_region 19 with (fail)
    go_upto_region 23 with (fail)
    go_wp2_with fail
    refine bodyPost_ret (v := .tuple #[.agg #[.int .i64 T, .int .i64 0, .int .i64 0, .bool s3], .int .i64 0]) (results_c4 _ _ (w.heap.size + 1 + 1 + 1) _ _ _ _ _ rfl rfl (row_put4 (z0 := .int .i64 0) (z1 := .int .i64 0) (z2 := .int .i64 0) (z3 := .bool false) ?_ _ _ _ _)) rfl ⟨by simp [refW], ?_⟩
    · with_reducible repeat (first | exact mr | refine row_far ?_ g3)
    · repeat (first | (with_reducible exact MB.out) | (refine Below.setCell ?_ (by simp only []; omega) _))
  · rename_i hH_
    clear hH_
    have hO : Outs w2.heap.size T s1 s2 s3 w2 ((((w3.setCell ⟨w2.heap.size, 0, none⟩ (.int .i64 T)).setCell ⟨w2.heap.size, 1, none⟩ (.int .i64 s1)).setCell ⟨w2.heap.size, 2, none⟩ (.int .i64 s2)).setCell ⟨w2.heap.size, 3, none⟩ (.bool s3)) := Outs.early (z0 := .int .i64 0) (z1 := .int .i64 0) (z2 := .int .i64 0) (z3 := .bool false) (fun o => (hb3.cell (by simp)).trans (by simp)) (fun o => (hb3.frozen (by simp)).trans (by simp)) (by repeat (first | exact Below.refl _ _ | (with_reducible apply below_alloc) | (with_reducible apply below_drew1) | (refine Below.trans ?_ (hb3.mono (by simp)))))
    generalize ((((w3.setCell ⟨w2.heap.size, 0, none⟩ (.int .i64 T)).setCell ⟨w2.heap.size, 1, none⟩ (.int .i64 s1)).setCell ⟨w2.heap.size, 2, none⟩ (.int .i64 s2)).setCell ⟨w2.heap.size, 3, none⟩ (.bool s3)) = W at hO ⊢
    generalize w2.heap.size = g at hO ⊢
    clear hb3 hc3 hf3 hz3
    obtain ⟨ho, hfo, hbO, hge⟩ := hO
    have ms : ∀ o, W.cell? ⟨w.heap.size + 1, o, none⟩ = #[Value.int .i64 s0, .int .i64 s1, .int .i64 s2, .bool s3][o]? := fun o => (hbO.cell (by simp; omega)).trans (hs o)
    have me : ∀ o, W.cell? ⟨w.heap.size + 1 + 1, o, none⟩ = #[Value.int .i64 e0, .int .i64 e1, .int .i64 e2][o]? := fun o => (hbO.cell (by simp; omega)).trans (he o)
    have mr : ∀ o, W.cell? ⟨w.heap.size + 1 + 1 + 1, o, none⟩ = #[Value.int .i64 0, .int .i64 0, .int .i64 0, .bool false][o]? := fun o => (hbO.cell (by simp; omega)).trans (hr o)
    have mfr : ∀ o, W.frozen? ⟨w.heap.size + 1 + 1 + 1, o, none⟩ = false := fun o => (hbO.frozen (by simp; omega)).trans (hfr o)
    have MB : Aside0 (Below w.heap.size w W) := Aside0.mk (HBE.out.trans (hbO.mono (by omega)))
    have g1 : g ≠ w.heap.size + 1 := by omega
    have g2 : g ≠ w.heap.size + 1 + 1 := by omega
    have g3 : g ≠ w.heap.size + 1 + 1 + 1 := by omega
    have g4 : w.heap.size ≤ g := by omega
    have n1 : w.heap.size + 1 ≠ g := by omega
    have n2 : w.heap.size + 1 + 1 ≠ g := by omega
    have n3 : w.heap.size + 1 + 1 + 1 ≠ g := by omega
    clear hs he hr hfs hfr hlt HBE hl1 hl2 HZ HP hbO hge
    clear hk0 hk1
    obtain rfl := hk.out
    clear hk
    go_upto_region 12 with (fail)
    go_upto_region 19 with (fail)
    go_upto_region 23 with (fail)
    go_wp2_with fail
    refine bodyPost_ret (v := .tuple #[.agg #[.int .i64 T, .int .i64 0, .int .i64 0, .bool s3], .int .i64 0]) (results_c4 _ _ (w.heap.size + 1 + 1 + 1) _ _ _ _ _ rfl rfl (row_put4 (z0 := .int .i64 0) (z1 := .int .i64 0) (z2 := .int .i64 0) (z3 := .bool false) ?_ _ _ _ _)) rfl ⟨by simp [refW], ?_⟩
    · with_reducible repeat (first | exact mr | refine row_far ?_ g3)
    · repeat (first | (with_reducible exact MB.out) | (refine Below.setCell ?_ (by simp only []; omega) _))

set_option maxHeartbeats 8000000 in
set_option maxRecDepth 100000 in
theorem rstep_6a (c0 : ByteArray) (c1 c2 c3 c4 c5 c6 c7 s0 s1 s2 : Int) (s3 : Bool) (e0 e1 e2 : Int) (w : World) (hv : chargeparkref12_Valid.f 9 c0 c1 c2 c3 c4 c5 c6 c7 s0 s1 s2 s3 = some true) (hf : chargeparkref12_Fits.f c0 c1 c2 c3 c4 c5 c6 c7 e0 e1 e2 = some true) (hk0 : decide (e0 < 1) = false) (hk1 : decide (9 < e0) = false) (T : Int) (hp : chargeparkref12_phase.f 9 s0 s1 s2 s3 e0 e1 e2 = some T) (hT : decide (T < 0) = false) (hk : Hid (e0 = 6)) (hn : Hid (e1 = 1)) (hl : Hid (s2 = 0)) :
    Calls Tryd.prog 12 #[.agg #[.string c0, .int .i64 c1, .int .i64 c2, .int .i64 c3, .int .i64 c4, .int .i64 c5, .int .i64 c6, .int .i64 c7], .agg #[.int .i64 s0, .int .i64 s1, .int .i64 s2, .bool s3], .agg #[.int .i64 e0, .int .i64 e1, .int .i64 e2]] w
      fun e w' => e = .returned (.tuple #[.agg #[.int .i64 (refW T s1 s2 s3 e0 e1 e2).1, .int .i64 (refW T s1 s2 s3 e0 e1 e2).2.1, .int .i64 (refW T s1 s2 s3 e0 e1 e2).2.2.1, .bool (refW T s1 s2 s3 e0 e1 e2).2.2.2], .int .i64 0]) ∧ Below w.heap.size w w' := by
  have HP := Aside0.mk hp
  clear hp
  have HV := Aside0.mk hv
  have HF := Aside0.mk hf
  clear hv hf
  go_enter Tryd.func12, Tryd.ntmps12
  go_wp2_with fail
  refine (chargeparkref12_Valid.calls 9 _ _ _ _ _ _ _ _ _ _ _ _ true _ HV.out).mono ?_
  rintro e w1 ⟨rfl, hb1⟩
  have B1 := (Boxes.start c0 c1 c2 c3 c4 c5 c6 c7 s0 s1 s2 s3 e0 e1 e2 w).below hb1
  clear hb1 HV
  obtain ⟨hc, hs, he, hr, hfs, hfr, hlt, hbe⟩ := id B1
  have HB1 := Aside0.mk B1
  clear B1 hbe
  go_wp2_with fail
  refine (chargeparkref12_Fits.calls _ _ _ _ _ _ _ _ _ _ _ true _ HF.out).mono ?_
  rintro e w2 ⟨rfl, hb2⟩
  have B2 := HB1.out.below hb2
  clear HB1 hb2 HF hc hs he hr hfs hfr hlt
  obtain ⟨hc, hs, he, hr, hfs, hfr, hlt, hbe⟩ := B2
  have HBE := Aside0.mk hbe
  clear hbe
  have hl1 : w.heap.size + 1 < w2.heap.size := by omega
  have hl2 : w.heap.size + 1 + 1 < w2.heap.size := by omega
  go_wp2_with fail
  clear hc
  have hz2 : ∀ W : World, Below w2.heap.size w2 W → W.cell? ⟨w.heap.size + 1, 0, none⟩ = some (.int .i64 s0) ∧ W.cell? ⟨w.heap.size + 1, 1, none⟩ = some (.int .i64 s1) ∧ W.cell? ⟨w.heap.size + 1, 2, none⟩ = some (.int .i64 s2) ∧ W.cell? ⟨w.heap.size + 1, 3, none⟩ = some (.bool s3) ∧ W.cell? ⟨w.heap.size + 1 + 1, 0, none⟩ = some (.int .i64 e0) ∧ W.cell? ⟨w.heap.size + 1 + 1, 1, none⟩ = some (.int .i64 e1) ∧ W.cell? ⟨w.heap.size + 1 + 1, 2, none⟩ = some (.int .i64 e2) ∧ Below w2.heap.size w2 W := fun W hW => ⟨(hW.cell (by simp; omega)).trans (hs 0), (hW.cell (by simp; omega)).trans (hs 1), (hW.cell (by simp; omega)).trans (hs 2), (hW.cell (by simp; omega)).trans (hs 3), (hW.cell (by simp; omega)).trans (he 0), (hW.cell (by simp; omega)).trans (he 1), (hW.cell (by simp; omega)).trans (he 2), hW⟩
  have HZ := Lib.hid hz2
  clear hz2
  go_region_held3 (fun x => x.cell? ⟨w.heap.size + 1, 0, none⟩ = some (.int .i64 s0) ∧ x.cell? ⟨w.heap.size + 1, 1, none⟩ = some (.int .i64 s1) ∧ x.cell? ⟨w.heap.size + 1, 2, none⟩ = some (.int .i64 s2) ∧ x.cell? ⟨w.heap.size + 1, 3, none⟩ = some (.bool s3) ∧ x.cell? ⟨w.heap.size + 1 + 1, 0, none⟩ = some (.int .i64 e0) ∧ x.cell? ⟨w.heap.size + 1 + 1, 1, none⟩ = some (.int .i64 e1) ∧ x.cell? ⟨w.heap.size + 1 + 1, 2, none⟩ = some (.int .i64 e2) ∧ Below w2.heap.size w2 x) (exact HZ.out _ (by repeat (first | exact Below.refl _ _ | (with_reducible apply below_alloc) | (with_reducible apply pw_below_drewN) | (with_reducible apply below_drew1) | (refine Below.setCell ?_ (by simp) _) | (refine Below.trans ?_ (hb3.mono (by simp))))))
    (first | (go_at_call 25; refine (chargeparkref12_phase.calls 9 _ _ _ _ _ _ _ _ _ HP.out).mono ?_; rintro e w3 ⟨rfl, hb3⟩; obtain ⟨hc3, hf3⟩ := bcell hb3; have hz3 := hb3.size))
  · rename_i hH_
    clear hH_
    have hO : Outs w3.heap.size T s1 s2 s3 w2 (w3.alloc (.cells #[.int .i64 T, .int .i64 s1, .int .i64 s2, .bool s3] 25)) := Outs.late (by repeat (first | exact Below.refl _ _ | (with_reducible apply below_alloc) | (with_reducible apply below_drew1) | (refine Below.trans ?_ (hb3.mono (by simp))))) _
    generalize (w3.alloc (.cells #[.int .i64 T, .int .i64 s1, .int .i64 s2, .bool s3] 25)) = W at hO ⊢
    generalize w3.heap.size = g at hO ⊢
    clear hb3 hc3 hf3 hz3
    obtain ⟨ho, hfo, hbO, hge⟩ := hO
    have ms : ∀ o, W.cell? ⟨w.heap.size + 1, o, none⟩ = #[Value.int .i64 s0, .int .i64 s1, .int .i64 s2, .bool s3][o]? := fun o => (hbO.cell (by simp; omega)).trans (hs o)
    have me : ∀ o, W.cell? ⟨w.heap.size + 1 + 1, o, none⟩ = #[Value.int .i64 e0, .int .i64 e1, .int .i64 e2][o]? := fun o => (hbO.cell (by simp; omega)).trans (he o)
    have mr : ∀ o, W.cell? ⟨w.heap.size + 1 + 1 + 1, o, none⟩ = #[Value.int .i64 0, .int .i64 0, .int .i64 0, .bool false][o]? := fun o => (hbO.cell (by simp; omega)).trans (hr o)
    have mfr : ∀ o, W.frozen? ⟨w.heap.size + 1 + 1 + 1, o, none⟩ = false := fun o => (hbO.frozen (by simp; omega)).trans (hfr o)
    have MB : Aside0 (Below w.heap.size w W) := Aside0.mk (HBE.out.trans (hbO.mono (by omega)))
    have g1 : g ≠ w.heap.size + 1 := by omega
    have g2 : g ≠ w.heap.size + 1 + 1 := by omega
    have g3 : g ≠ w.heap.size + 1 + 1 + 1 := by omega
    have g4 : w.heap.size ≤ g := by omega
    have n1 : w.heap.size + 1 ≠ g := by omega
    have n2 : w.heap.size + 1 + 1 ≠ g := by omega
    have n3 : w.heap.size + 1 + 1 + 1 ≠ g := by omega
    clear hs he hr hfs hfr hlt HBE hl1 hl2 HZ HP hbO hge
    clear hk0 hk1
    obtain rfl := hk.out
    obtain rfl := hn.out
    obtain rfl := hl.out
    clear hk hn hl
    go_upto_region 12 with (fail)
    go_upto_region 19 with (fail)
    go_upto_region 23 with (fail)
    go_wp2_with fail
    refine bodyPost_ret (v := .tuple #[.agg #[.int .i64 T, .int .i64 0, .int .i64 0, .bool true], .int .i64 0]) (results_c4 _ _ (w.heap.size + 1 + 1 + 1) _ _ _ _ _ rfl rfl (row_put4 (z0 := .int .i64 0) (z1 := .int .i64 0) (z2 := .int .i64 0) (z3 := .bool false) ?_ _ _ _ _)) rfl ⟨by simp [refW], ?_⟩
    · with_reducible repeat (first | exact mr | refine row_far ?_ g3)
    · repeat (first | (with_reducible exact MB.out) | (refine Below.setCell ?_ (by simp only []; omega) _))
  · rename_i hH_
    clear hH_
    have hO : Outs w2.heap.size T s1 s2 s3 w2 ((((w3.setCell ⟨w2.heap.size, 0, none⟩ (.int .i64 T)).setCell ⟨w2.heap.size, 1, none⟩ (.int .i64 s1)).setCell ⟨w2.heap.size, 2, none⟩ (.int .i64 s2)).setCell ⟨w2.heap.size, 3, none⟩ (.bool s3)) := Outs.early (z0 := .int .i64 0) (z1 := .int .i64 0) (z2 := .int .i64 0) (z3 := .bool false) (fun o => (hb3.cell (by simp)).trans (by simp)) (fun o => (hb3.frozen (by simp)).trans (by simp)) (by repeat (first | exact Below.refl _ _ | (with_reducible apply below_alloc) | (with_reducible apply below_drew1) | (refine Below.trans ?_ (hb3.mono (by simp)))))
    generalize ((((w3.setCell ⟨w2.heap.size, 0, none⟩ (.int .i64 T)).setCell ⟨w2.heap.size, 1, none⟩ (.int .i64 s1)).setCell ⟨w2.heap.size, 2, none⟩ (.int .i64 s2)).setCell ⟨w2.heap.size, 3, none⟩ (.bool s3)) = W at hO ⊢
    generalize w2.heap.size = g at hO ⊢
    clear hb3 hc3 hf3 hz3
    obtain ⟨ho, hfo, hbO, hge⟩ := hO
    have ms : ∀ o, W.cell? ⟨w.heap.size + 1, o, none⟩ = #[Value.int .i64 s0, .int .i64 s1, .int .i64 s2, .bool s3][o]? := fun o => (hbO.cell (by simp; omega)).trans (hs o)
    have me : ∀ o, W.cell? ⟨w.heap.size + 1 + 1, o, none⟩ = #[Value.int .i64 e0, .int .i64 e1, .int .i64 e2][o]? := fun o => (hbO.cell (by simp; omega)).trans (he o)
    have mr : ∀ o, W.cell? ⟨w.heap.size + 1 + 1 + 1, o, none⟩ = #[Value.int .i64 0, .int .i64 0, .int .i64 0, .bool false][o]? := fun o => (hbO.cell (by simp; omega)).trans (hr o)
    have mfr : ∀ o, W.frozen? ⟨w.heap.size + 1 + 1 + 1, o, none⟩ = false := fun o => (hbO.frozen (by simp; omega)).trans (hfr o)
    have MB : Aside0 (Below w.heap.size w W) := Aside0.mk (HBE.out.trans (hbO.mono (by omega)))
    have g1 : g ≠ w.heap.size + 1 := by omega
    have g2 : g ≠ w.heap.size + 1 + 1 := by omega
    have g3 : g ≠ w.heap.size + 1 + 1 + 1 := by omega
    have g4 : w.heap.size ≤ g := by omega
    have n1 : w.heap.size + 1 ≠ g := by omega
    have n2 : w.heap.size + 1 + 1 ≠ g := by omega
    have n3 : w.heap.size + 1 + 1 + 1 ≠ g := by omega
    clear hs he hr hfs hfr hlt HBE hl1 hl2 HZ HP hbO hge
    clear hk0 hk1
    obtain rfl := hk.out
    obtain rfl := hn.out
    obtain rfl := hl.out
    clear hk hn hl
    go_upto_region 12 with (fail)
    go_upto_region 19 with (fail)
    go_upto_region 23 with (fail)
    go_wp2_with fail
    refine bodyPost_ret (v := .tuple #[.agg #[.int .i64 T, .int .i64 0, .int .i64 0, .bool true], .int .i64 0]) (results_c4 _ _ (w.heap.size + 1 + 1 + 1) _ _ _ _ _ rfl rfl (row_put4 (z0 := .int .i64 0) (z1 := .int .i64 0) (z2 := .int .i64 0) (z3 := .bool false) ?_ _ _ _ _)) rfl ⟨by simp [refW], ?_⟩
    · with_reducible repeat (first | exact mr | refine row_far ?_ g3)
    · repeat (first | (with_reducible exact MB.out) | (refine Below.setCell ?_ (by simp only []; omega) _))

set_option maxHeartbeats 8000000 in
set_option maxRecDepth 100000 in
theorem rstep_6b (c0 : ByteArray) (c1 c2 c3 c4 c5 c6 c7 s0 s1 s2 : Int) (s3 : Bool) (e0 e1 e2 : Int) (w : World) (hv : chargeparkref12_Valid.f 9 c0 c1 c2 c3 c4 c5 c6 c7 s0 s1 s2 s3 = some true) (hf : chargeparkref12_Fits.f c0 c1 c2 c3 c4 c5 c6 c7 e0 e1 e2 = some true) (hk0 : decide (e0 < 1) = false) (hk1 : decide (9 < e0) = false) (T : Int) (hp : chargeparkref12_phase.f 9 s0 s1 s2 s3 e0 e1 e2 = some T) (hT : decide (T < 0) = false) (hk : Hid (e0 = 6)) (hn : Hid (e1 = 1)) (hl : (s2 == 0) = false) (hz : Hid (s2 ≠ 0)) :
    Calls Tryd.prog 12 #[.agg #[.string c0, .int .i64 c1, .int .i64 c2, .int .i64 c3, .int .i64 c4, .int .i64 c5, .int .i64 c6, .int .i64 c7], .agg #[.int .i64 s0, .int .i64 s1, .int .i64 s2, .bool s3], .agg #[.int .i64 e0, .int .i64 e1, .int .i64 e2]] w
      fun e w' => e = .returned (.tuple #[.agg #[.int .i64 (refW T s1 s2 s3 e0 e1 e2).1, .int .i64 (refW T s1 s2 s3 e0 e1 e2).2.1, .int .i64 (refW T s1 s2 s3 e0 e1 e2).2.2.1, .bool (refW T s1 s2 s3 e0 e1 e2).2.2.2], .int .i64 0]) ∧ Below w.heap.size w w' := by
  have HP := Aside0.mk hp
  clear hp
  have HV := Aside0.mk hv
  have HF := Aside0.mk hf
  clear hv hf
  go_enter Tryd.func12, Tryd.ntmps12
  go_wp2_with fail
  refine (chargeparkref12_Valid.calls 9 _ _ _ _ _ _ _ _ _ _ _ _ true _ HV.out).mono ?_
  rintro e w1 ⟨rfl, hb1⟩
  have B1 := (Boxes.start c0 c1 c2 c3 c4 c5 c6 c7 s0 s1 s2 s3 e0 e1 e2 w).below hb1
  clear hb1 HV
  obtain ⟨hc, hs, he, hr, hfs, hfr, hlt, hbe⟩ := id B1
  have HB1 := Aside0.mk B1
  clear B1 hbe
  go_wp2_with fail
  refine (chargeparkref12_Fits.calls _ _ _ _ _ _ _ _ _ _ _ true _ HF.out).mono ?_
  rintro e w2 ⟨rfl, hb2⟩
  have B2 := HB1.out.below hb2
  clear HB1 hb2 HF hc hs he hr hfs hfr hlt
  obtain ⟨hc, hs, he, hr, hfs, hfr, hlt, hbe⟩ := B2
  have HBE := Aside0.mk hbe
  clear hbe
  have hl1 : w.heap.size + 1 < w2.heap.size := by omega
  have hl2 : w.heap.size + 1 + 1 < w2.heap.size := by omega
  go_wp2_with fail
  clear hc
  have hz2 : ∀ W : World, Below w2.heap.size w2 W → W.cell? ⟨w.heap.size + 1, 0, none⟩ = some (.int .i64 s0) ∧ W.cell? ⟨w.heap.size + 1, 1, none⟩ = some (.int .i64 s1) ∧ W.cell? ⟨w.heap.size + 1, 2, none⟩ = some (.int .i64 s2) ∧ W.cell? ⟨w.heap.size + 1, 3, none⟩ = some (.bool s3) ∧ W.cell? ⟨w.heap.size + 1 + 1, 0, none⟩ = some (.int .i64 e0) ∧ W.cell? ⟨w.heap.size + 1 + 1, 1, none⟩ = some (.int .i64 e1) ∧ W.cell? ⟨w.heap.size + 1 + 1, 2, none⟩ = some (.int .i64 e2) ∧ Below w2.heap.size w2 W := fun W hW => ⟨(hW.cell (by simp; omega)).trans (hs 0), (hW.cell (by simp; omega)).trans (hs 1), (hW.cell (by simp; omega)).trans (hs 2), (hW.cell (by simp; omega)).trans (hs 3), (hW.cell (by simp; omega)).trans (he 0), (hW.cell (by simp; omega)).trans (he 1), (hW.cell (by simp; omega)).trans (he 2), hW⟩
  have HZ := Lib.hid hz2
  clear hz2
  go_region_held3 (fun x => x.cell? ⟨w.heap.size + 1, 0, none⟩ = some (.int .i64 s0) ∧ x.cell? ⟨w.heap.size + 1, 1, none⟩ = some (.int .i64 s1) ∧ x.cell? ⟨w.heap.size + 1, 2, none⟩ = some (.int .i64 s2) ∧ x.cell? ⟨w.heap.size + 1, 3, none⟩ = some (.bool s3) ∧ x.cell? ⟨w.heap.size + 1 + 1, 0, none⟩ = some (.int .i64 e0) ∧ x.cell? ⟨w.heap.size + 1 + 1, 1, none⟩ = some (.int .i64 e1) ∧ x.cell? ⟨w.heap.size + 1 + 1, 2, none⟩ = some (.int .i64 e2) ∧ Below w2.heap.size w2 x) (exact HZ.out _ (by repeat (first | exact Below.refl _ _ | (with_reducible apply below_alloc) | (with_reducible apply pw_below_drewN) | (with_reducible apply below_drew1) | (refine Below.setCell ?_ (by simp) _) | (refine Below.trans ?_ (hb3.mono (by simp))))))
    (first | (go_at_call 25; refine (chargeparkref12_phase.calls 9 _ _ _ _ _ _ _ _ _ HP.out).mono ?_; rintro e w3 ⟨rfl, hb3⟩; obtain ⟨hc3, hf3⟩ := bcell hb3; have hz3 := hb3.size))
  · rename_i hH_
    clear hH_
    have hO : Outs w3.heap.size T s1 s2 s3 w2 (w3.alloc (.cells #[.int .i64 T, .int .i64 s1, .int .i64 s2, .bool s3] 25)) := Outs.late (by repeat (first | exact Below.refl _ _ | (with_reducible apply below_alloc) | (with_reducible apply below_drew1) | (refine Below.trans ?_ (hb3.mono (by simp))))) _
    generalize (w3.alloc (.cells #[.int .i64 T, .int .i64 s1, .int .i64 s2, .bool s3] 25)) = W at hO ⊢
    generalize w3.heap.size = g at hO ⊢
    clear hb3 hc3 hf3 hz3
    obtain ⟨ho, hfo, hbO, hge⟩ := hO
    have ms : ∀ o, W.cell? ⟨w.heap.size + 1, o, none⟩ = #[Value.int .i64 s0, .int .i64 s1, .int .i64 s2, .bool s3][o]? := fun o => (hbO.cell (by simp; omega)).trans (hs o)
    have me : ∀ o, W.cell? ⟨w.heap.size + 1 + 1, o, none⟩ = #[Value.int .i64 e0, .int .i64 e1, .int .i64 e2][o]? := fun o => (hbO.cell (by simp; omega)).trans (he o)
    have mr : ∀ o, W.cell? ⟨w.heap.size + 1 + 1 + 1, o, none⟩ = #[Value.int .i64 0, .int .i64 0, .int .i64 0, .bool false][o]? := fun o => (hbO.cell (by simp; omega)).trans (hr o)
    have mfr : ∀ o, W.frozen? ⟨w.heap.size + 1 + 1 + 1, o, none⟩ = false := fun o => (hbO.frozen (by simp; omega)).trans (hfr o)
    have MB : Aside0 (Below w.heap.size w W) := Aside0.mk (HBE.out.trans (hbO.mono (by omega)))
    have g1 : g ≠ w.heap.size + 1 := by omega
    have g2 : g ≠ w.heap.size + 1 + 1 := by omega
    have g3 : g ≠ w.heap.size + 1 + 1 + 1 := by omega
    have g4 : w.heap.size ≤ g := by omega
    have n1 : w.heap.size + 1 ≠ g := by omega
    have n2 : w.heap.size + 1 + 1 ≠ g := by omega
    have n3 : w.heap.size + 1 + 1 + 1 ≠ g := by omega
    clear hs he hr hfs hfr hlt HBE hl1 hl2 HZ HP hbO hge
    clear hk0 hk1
    obtain rfl := hk.out
    obtain rfl := hn.out
    clear hk hn
    go_upto_region 12 with (fail)
    go_upto_region 19 with (fail)
    go_upto_region 23 with (fail)
    go_wp2_with fail
    refine bodyPost_ret (v := .tuple #[.agg #[.int .i64 T, .int .i64 s1, .int .i64 s2, .bool true], .int .i64 0]) (results_c4 _ _ (w.heap.size + 1 + 1 + 1) _ _ _ _ _ rfl rfl (row_put4 (z0 := .int .i64 0) (z1 := .int .i64 0) (z2 := .int .i64 0) (z3 := .bool false) ?_ _ _ _ _)) rfl ⟨by simp [refW, hz.out], ?_⟩
    · with_reducible repeat (first | exact mr | refine row_far ?_ g3)
    · repeat (first | (with_reducible exact MB.out) | (refine Below.setCell ?_ (by simp only []; omega) _))
  · rename_i hH_
    clear hH_
    have hO : Outs w2.heap.size T s1 s2 s3 w2 ((((w3.setCell ⟨w2.heap.size, 0, none⟩ (.int .i64 T)).setCell ⟨w2.heap.size, 1, none⟩ (.int .i64 s1)).setCell ⟨w2.heap.size, 2, none⟩ (.int .i64 s2)).setCell ⟨w2.heap.size, 3, none⟩ (.bool s3)) := Outs.early (z0 := .int .i64 0) (z1 := .int .i64 0) (z2 := .int .i64 0) (z3 := .bool false) (fun o => (hb3.cell (by simp)).trans (by simp)) (fun o => (hb3.frozen (by simp)).trans (by simp)) (by repeat (first | exact Below.refl _ _ | (with_reducible apply below_alloc) | (with_reducible apply below_drew1) | (refine Below.trans ?_ (hb3.mono (by simp)))))
    generalize ((((w3.setCell ⟨w2.heap.size, 0, none⟩ (.int .i64 T)).setCell ⟨w2.heap.size, 1, none⟩ (.int .i64 s1)).setCell ⟨w2.heap.size, 2, none⟩ (.int .i64 s2)).setCell ⟨w2.heap.size, 3, none⟩ (.bool s3)) = W at hO ⊢
    generalize w2.heap.size = g at hO ⊢
    clear hb3 hc3 hf3 hz3
    obtain ⟨ho, hfo, hbO, hge⟩ := hO
    have ms : ∀ o, W.cell? ⟨w.heap.size + 1, o, none⟩ = #[Value.int .i64 s0, .int .i64 s1, .int .i64 s2, .bool s3][o]? := fun o => (hbO.cell (by simp; omega)).trans (hs o)
    have me : ∀ o, W.cell? ⟨w.heap.size + 1 + 1, o, none⟩ = #[Value.int .i64 e0, .int .i64 e1, .int .i64 e2][o]? := fun o => (hbO.cell (by simp; omega)).trans (he o)
    have mr : ∀ o, W.cell? ⟨w.heap.size + 1 + 1 + 1, o, none⟩ = #[Value.int .i64 0, .int .i64 0, .int .i64 0, .bool false][o]? := fun o => (hbO.cell (by simp; omega)).trans (hr o)
    have mfr : ∀ o, W.frozen? ⟨w.heap.size + 1 + 1 + 1, o, none⟩ = false := fun o => (hbO.frozen (by simp; omega)).trans (hfr o)
    have MB : Aside0 (Below w.heap.size w W) := Aside0.mk (HBE.out.trans (hbO.mono (by omega)))
    have g1 : g ≠ w.heap.size + 1 := by omega
    have g2 : g ≠ w.heap.size + 1 + 1 := by omega
    have g3 : g ≠ w.heap.size + 1 + 1 + 1 := by omega
    have g4 : w.heap.size ≤ g := by omega
    have n1 : w.heap.size + 1 ≠ g := by omega
    have n2 : w.heap.size + 1 + 1 ≠ g := by omega
    have n3 : w.heap.size + 1 + 1 + 1 ≠ g := by omega
    clear hs he hr hfs hfr hlt HBE hl1 hl2 HZ HP hbO hge
    clear hk0 hk1
    obtain rfl := hk.out
    obtain rfl := hn.out
    clear hk hn
    go_upto_region 12 with (fail)
    go_upto_region 19 with (fail)
    go_upto_region 23 with (fail)
    go_wp2_with fail
    refine bodyPost_ret (v := .tuple #[.agg #[.int .i64 T, .int .i64 s1, .int .i64 s2, .bool true], .int .i64 0]) (results_c4 _ _ (w.heap.size + 1 + 1 + 1) _ _ _ _ _ rfl rfl (row_put4 (z0 := .int .i64 0) (z1 := .int .i64 0) (z2 := .int .i64 0) (z3 := .bool false) ?_ _ _ _ _)) rfl ⟨by simp [refW, hz.out], ?_⟩
    · with_reducible repeat (first | exact mr | refine row_far ?_ g3)
    · repeat (first | (with_reducible exact MB.out) | (refine Below.setCell ?_ (by simp only []; omega) _))

set_option maxHeartbeats 8000000 in
set_option maxRecDepth 100000 in
theorem rstep_6c (c0 : ByteArray) (c1 c2 c3 c4 c5 c6 c7 s0 s1 s2 : Int) (s3 : Bool) (e0 e1 e2 : Int) (w : World) (hv : chargeparkref12_Valid.f 9 c0 c1 c2 c3 c4 c5 c6 c7 s0 s1 s2 s3 = some true) (hf : chargeparkref12_Fits.f c0 c1 c2 c3 c4 c5 c6 c7 e0 e1 e2 = some true) (hk0 : decide (e0 < 1) = false) (hk1 : decide (9 < e0) = false) (T : Int) (hp : chargeparkref12_phase.f 9 s0 s1 s2 s3 e0 e1 e2 = some T) (hT : decide (T < 0) = false) (hk : Hid (e0 = 6)) (hn : (e1 == 1) = false) (hy : Hid (e1 ≠ 1)) (hl : Hid (s2 = 0)) :
    Calls Tryd.prog 12 #[.agg #[.string c0, .int .i64 c1, .int .i64 c2, .int .i64 c3, .int .i64 c4, .int .i64 c5, .int .i64 c6, .int .i64 c7], .agg #[.int .i64 s0, .int .i64 s1, .int .i64 s2, .bool s3], .agg #[.int .i64 e0, .int .i64 e1, .int .i64 e2]] w
      fun e w' => e = .returned (.tuple #[.agg #[.int .i64 (refW T s1 s2 s3 e0 e1 e2).1, .int .i64 (refW T s1 s2 s3 e0 e1 e2).2.1, .int .i64 (refW T s1 s2 s3 e0 e1 e2).2.2.1, .bool (refW T s1 s2 s3 e0 e1 e2).2.2.2], .int .i64 0]) ∧ Below w.heap.size w w' := by
  have HP := Aside0.mk hp
  clear hp
  have HV := Aside0.mk hv
  have HF := Aside0.mk hf
  clear hv hf
  go_enter Tryd.func12, Tryd.ntmps12
  go_wp2_with fail
  refine (chargeparkref12_Valid.calls 9 _ _ _ _ _ _ _ _ _ _ _ _ true _ HV.out).mono ?_
  rintro e w1 ⟨rfl, hb1⟩
  have B1 := (Boxes.start c0 c1 c2 c3 c4 c5 c6 c7 s0 s1 s2 s3 e0 e1 e2 w).below hb1
  clear hb1 HV
  obtain ⟨hc, hs, he, hr, hfs, hfr, hlt, hbe⟩ := id B1
  have HB1 := Aside0.mk B1
  clear B1 hbe
  go_wp2_with fail
  refine (chargeparkref12_Fits.calls _ _ _ _ _ _ _ _ _ _ _ true _ HF.out).mono ?_
  rintro e w2 ⟨rfl, hb2⟩
  have B2 := HB1.out.below hb2
  clear HB1 hb2 HF hc hs he hr hfs hfr hlt
  obtain ⟨hc, hs, he, hr, hfs, hfr, hlt, hbe⟩ := B2
  have HBE := Aside0.mk hbe
  clear hbe
  have hl1 : w.heap.size + 1 < w2.heap.size := by omega
  have hl2 : w.heap.size + 1 + 1 < w2.heap.size := by omega
  go_wp2_with fail
  clear hc
  have hz2 : ∀ W : World, Below w2.heap.size w2 W → W.cell? ⟨w.heap.size + 1, 0, none⟩ = some (.int .i64 s0) ∧ W.cell? ⟨w.heap.size + 1, 1, none⟩ = some (.int .i64 s1) ∧ W.cell? ⟨w.heap.size + 1, 2, none⟩ = some (.int .i64 s2) ∧ W.cell? ⟨w.heap.size + 1, 3, none⟩ = some (.bool s3) ∧ W.cell? ⟨w.heap.size + 1 + 1, 0, none⟩ = some (.int .i64 e0) ∧ W.cell? ⟨w.heap.size + 1 + 1, 1, none⟩ = some (.int .i64 e1) ∧ W.cell? ⟨w.heap.size + 1 + 1, 2, none⟩ = some (.int .i64 e2) ∧ Below w2.heap.size w2 W := fun W hW => ⟨(hW.cell (by simp; omega)).trans (hs 0), (hW.cell (by simp; omega)).trans (hs 1), (hW.cell (by simp; omega)).trans (hs 2), (hW.cell (by simp; omega)).trans (hs 3), (hW.cell (by simp; omega)).trans (he 0), (hW.cell (by simp; omega)).trans (he 1), (hW.cell (by simp; omega)).trans (he 2), hW⟩
  have HZ := Lib.hid hz2
  clear hz2
  go_region_held3 (fun x => x.cell? ⟨w.heap.size + 1, 0, none⟩ = some (.int .i64 s0) ∧ x.cell? ⟨w.heap.size + 1, 1, none⟩ = some (.int .i64 s1) ∧ x.cell? ⟨w.heap.size + 1, 2, none⟩ = some (.int .i64 s2) ∧ x.cell? ⟨w.heap.size + 1, 3, none⟩ = some (.bool s3) ∧ x.cell? ⟨w.heap.size + 1 + 1, 0, none⟩ = some (.int .i64 e0) ∧ x.cell? ⟨w.heap.size + 1 + 1, 1, none⟩ = some (.int .i64 e1) ∧ x.cell? ⟨w.heap.size + 1 + 1, 2, none⟩ = some (.int .i64 e2) ∧ Below w2.heap.size w2 x) (exact HZ.out _ (by repeat (first | exact Below.refl _ _ | (with_reducible apply below_alloc) | (with_reducible apply pw_below_drewN) | (with_reducible apply below_drew1) | (refine Below.setCell ?_ (by simp) _) | (refine Below.trans ?_ (hb3.mono (by simp))))))
    (first | (go_at_call 25; refine (chargeparkref12_phase.calls 9 _ _ _ _ _ _ _ _ _ HP.out).mono ?_; rintro e w3 ⟨rfl, hb3⟩; obtain ⟨hc3, hf3⟩ := bcell hb3; have hz3 := hb3.size))
  · rename_i hH_
    clear hH_
    have hO : Outs w3.heap.size T s1 s2 s3 w2 (w3.alloc (.cells #[.int .i64 T, .int .i64 s1, .int .i64 s2, .bool s3] 25)) := Outs.late (by repeat (first | exact Below.refl _ _ | (with_reducible apply below_alloc) | (with_reducible apply below_drew1) | (refine Below.trans ?_ (hb3.mono (by simp))))) _
    generalize (w3.alloc (.cells #[.int .i64 T, .int .i64 s1, .int .i64 s2, .bool s3] 25)) = W at hO ⊢
    generalize w3.heap.size = g at hO ⊢
    clear hb3 hc3 hf3 hz3
    obtain ⟨ho, hfo, hbO, hge⟩ := hO
    have ms : ∀ o, W.cell? ⟨w.heap.size + 1, o, none⟩ = #[Value.int .i64 s0, .int .i64 s1, .int .i64 s2, .bool s3][o]? := fun o => (hbO.cell (by simp; omega)).trans (hs o)
    have me : ∀ o, W.cell? ⟨w.heap.size + 1 + 1, o, none⟩ = #[Value.int .i64 e0, .int .i64 e1, .int .i64 e2][o]? := fun o => (hbO.cell (by simp; omega)).trans (he o)
    have mr : ∀ o, W.cell? ⟨w.heap.size + 1 + 1 + 1, o, none⟩ = #[Value.int .i64 0, .int .i64 0, .int .i64 0, .bool false][o]? := fun o => (hbO.cell (by simp; omega)).trans (hr o)
    have mfr : ∀ o, W.frozen? ⟨w.heap.size + 1 + 1 + 1, o, none⟩ = false := fun o => (hbO.frozen (by simp; omega)).trans (hfr o)
    have MB : Aside0 (Below w.heap.size w W) := Aside0.mk (HBE.out.trans (hbO.mono (by omega)))
    have g1 : g ≠ w.heap.size + 1 := by omega
    have g2 : g ≠ w.heap.size + 1 + 1 := by omega
    have g3 : g ≠ w.heap.size + 1 + 1 + 1 := by omega
    have g4 : w.heap.size ≤ g := by omega
    have n1 : w.heap.size + 1 ≠ g := by omega
    have n2 : w.heap.size + 1 + 1 ≠ g := by omega
    have n3 : w.heap.size + 1 + 1 + 1 ≠ g := by omega
    clear hs he hr hfs hfr hlt HBE hl1 hl2 HZ HP hbO hge
    clear hk0 hk1
    obtain rfl := hk.out
    obtain rfl := hl.out
    clear hk hl
    go_upto_region 12 with (fail)
    go_upto_region 19 with (fail)
    go_upto_region 23 with (fail)
    go_wp2_with fail
    refine bodyPost_ret (v := .tuple #[.agg #[.int .i64 T, .int .i64 0, .int .i64 0, .bool s3], .int .i64 0]) (results_c4 _ _ (w.heap.size + 1 + 1 + 1) _ _ _ _ _ rfl rfl (row_put4 (z0 := .int .i64 0) (z1 := .int .i64 0) (z2 := .int .i64 0) (z3 := .bool false) ?_ _ _ _ _)) rfl ⟨by simp [refW, hy.out], ?_⟩
    · with_reducible repeat (first | exact mr | refine row_far ?_ g3)
    · repeat (first | (with_reducible exact MB.out) | (refine Below.setCell ?_ (by simp only []; omega) _))
  · rename_i hH_
    clear hH_
    have hO : Outs w2.heap.size T s1 s2 s3 w2 ((((w3.setCell ⟨w2.heap.size, 0, none⟩ (.int .i64 T)).setCell ⟨w2.heap.size, 1, none⟩ (.int .i64 s1)).setCell ⟨w2.heap.size, 2, none⟩ (.int .i64 s2)).setCell ⟨w2.heap.size, 3, none⟩ (.bool s3)) := Outs.early (z0 := .int .i64 0) (z1 := .int .i64 0) (z2 := .int .i64 0) (z3 := .bool false) (fun o => (hb3.cell (by simp)).trans (by simp)) (fun o => (hb3.frozen (by simp)).trans (by simp)) (by repeat (first | exact Below.refl _ _ | (with_reducible apply below_alloc) | (with_reducible apply below_drew1) | (refine Below.trans ?_ (hb3.mono (by simp)))))
    generalize ((((w3.setCell ⟨w2.heap.size, 0, none⟩ (.int .i64 T)).setCell ⟨w2.heap.size, 1, none⟩ (.int .i64 s1)).setCell ⟨w2.heap.size, 2, none⟩ (.int .i64 s2)).setCell ⟨w2.heap.size, 3, none⟩ (.bool s3)) = W at hO ⊢
    generalize w2.heap.size = g at hO ⊢
    clear hb3 hc3 hf3 hz3
    obtain ⟨ho, hfo, hbO, hge⟩ := hO
    have ms : ∀ o, W.cell? ⟨w.heap.size + 1, o, none⟩ = #[Value.int .i64 s0, .int .i64 s1, .int .i64 s2, .bool s3][o]? := fun o => (hbO.cell (by simp; omega)).trans (hs o)
    have me : ∀ o, W.cell? ⟨w.heap.size + 1 + 1, o, none⟩ = #[Value.int .i64 e0, .int .i64 e1, .int .i64 e2][o]? := fun o => (hbO.cell (by simp; omega)).trans (he o)
    have mr : ∀ o, W.cell? ⟨w.heap.size + 1 + 1 + 1, o, none⟩ = #[Value.int .i64 0, .int .i64 0, .int .i64 0, .bool false][o]? := fun o => (hbO.cell (by simp; omega)).trans (hr o)
    have mfr : ∀ o, W.frozen? ⟨w.heap.size + 1 + 1 + 1, o, none⟩ = false := fun o => (hbO.frozen (by simp; omega)).trans (hfr o)
    have MB : Aside0 (Below w.heap.size w W) := Aside0.mk (HBE.out.trans (hbO.mono (by omega)))
    have g1 : g ≠ w.heap.size + 1 := by omega
    have g2 : g ≠ w.heap.size + 1 + 1 := by omega
    have g3 : g ≠ w.heap.size + 1 + 1 + 1 := by omega
    have g4 : w.heap.size ≤ g := by omega
    have n1 : w.heap.size + 1 ≠ g := by omega
    have n2 : w.heap.size + 1 + 1 ≠ g := by omega
    have n3 : w.heap.size + 1 + 1 + 1 ≠ g := by omega
    clear hs he hr hfs hfr hlt HBE hl1 hl2 HZ HP hbO hge
    clear hk0 hk1
    obtain rfl := hk.out
    obtain rfl := hl.out
    clear hk hl
    go_upto_region 12 with (fail)
    go_upto_region 19 with (fail)
    go_upto_region 23 with (fail)
    go_wp2_with fail
    refine bodyPost_ret (v := .tuple #[.agg #[.int .i64 T, .int .i64 0, .int .i64 0, .bool s3], .int .i64 0]) (results_c4 _ _ (w.heap.size + 1 + 1 + 1) _ _ _ _ _ rfl rfl (row_put4 (z0 := .int .i64 0) (z1 := .int .i64 0) (z2 := .int .i64 0) (z3 := .bool false) ?_ _ _ _ _)) rfl ⟨by simp [refW, hy.out], ?_⟩
    · with_reducible repeat (first | exact mr | refine row_far ?_ g3)
    · repeat (first | (with_reducible exact MB.out) | (refine Below.setCell ?_ (by simp only []; omega) _))

set_option maxHeartbeats 8000000 in
set_option maxRecDepth 100000 in
theorem rstep_6d (c0 : ByteArray) (c1 c2 c3 c4 c5 c6 c7 s0 s1 s2 : Int) (s3 : Bool) (e0 e1 e2 : Int) (w : World) (hv : chargeparkref12_Valid.f 9 c0 c1 c2 c3 c4 c5 c6 c7 s0 s1 s2 s3 = some true) (hf : chargeparkref12_Fits.f c0 c1 c2 c3 c4 c5 c6 c7 e0 e1 e2 = some true) (hk0 : decide (e0 < 1) = false) (hk1 : decide (9 < e0) = false) (T : Int) (hp : chargeparkref12_phase.f 9 s0 s1 s2 s3 e0 e1 e2 = some T) (hT : decide (T < 0) = false) (hk : Hid (e0 = 6)) (hn : (e1 == 1) = false) (hy : Hid (e1 ≠ 1)) (hl : (s2 == 0) = false) (hz : Hid (s2 ≠ 0)) :
    Calls Tryd.prog 12 #[.agg #[.string c0, .int .i64 c1, .int .i64 c2, .int .i64 c3, .int .i64 c4, .int .i64 c5, .int .i64 c6, .int .i64 c7], .agg #[.int .i64 s0, .int .i64 s1, .int .i64 s2, .bool s3], .agg #[.int .i64 e0, .int .i64 e1, .int .i64 e2]] w
      fun e w' => e = .returned (.tuple #[.agg #[.int .i64 (refW T s1 s2 s3 e0 e1 e2).1, .int .i64 (refW T s1 s2 s3 e0 e1 e2).2.1, .int .i64 (refW T s1 s2 s3 e0 e1 e2).2.2.1, .bool (refW T s1 s2 s3 e0 e1 e2).2.2.2], .int .i64 0]) ∧ Below w.heap.size w w' := by
  have HP := Aside0.mk hp
  clear hp
  have HV := Aside0.mk hv
  have HF := Aside0.mk hf
  clear hv hf
  go_enter Tryd.func12, Tryd.ntmps12
  go_wp2_with fail
  refine (chargeparkref12_Valid.calls 9 _ _ _ _ _ _ _ _ _ _ _ _ true _ HV.out).mono ?_
  rintro e w1 ⟨rfl, hb1⟩
  have B1 := (Boxes.start c0 c1 c2 c3 c4 c5 c6 c7 s0 s1 s2 s3 e0 e1 e2 w).below hb1
  clear hb1 HV
  obtain ⟨hc, hs, he, hr, hfs, hfr, hlt, hbe⟩ := id B1
  have HB1 := Aside0.mk B1
  clear B1 hbe
  go_wp2_with fail
  refine (chargeparkref12_Fits.calls _ _ _ _ _ _ _ _ _ _ _ true _ HF.out).mono ?_
  rintro e w2 ⟨rfl, hb2⟩
  have B2 := HB1.out.below hb2
  clear HB1 hb2 HF hc hs he hr hfs hfr hlt
  obtain ⟨hc, hs, he, hr, hfs, hfr, hlt, hbe⟩ := B2
  have HBE := Aside0.mk hbe
  clear hbe
  have hl1 : w.heap.size + 1 < w2.heap.size := by omega
  have hl2 : w.heap.size + 1 + 1 < w2.heap.size := by omega
  go_wp2_with fail
  clear hc
  have hz2 : ∀ W : World, Below w2.heap.size w2 W → W.cell? ⟨w.heap.size + 1, 0, none⟩ = some (.int .i64 s0) ∧ W.cell? ⟨w.heap.size + 1, 1, none⟩ = some (.int .i64 s1) ∧ W.cell? ⟨w.heap.size + 1, 2, none⟩ = some (.int .i64 s2) ∧ W.cell? ⟨w.heap.size + 1, 3, none⟩ = some (.bool s3) ∧ W.cell? ⟨w.heap.size + 1 + 1, 0, none⟩ = some (.int .i64 e0) ∧ W.cell? ⟨w.heap.size + 1 + 1, 1, none⟩ = some (.int .i64 e1) ∧ W.cell? ⟨w.heap.size + 1 + 1, 2, none⟩ = some (.int .i64 e2) ∧ Below w2.heap.size w2 W := fun W hW => ⟨(hW.cell (by simp; omega)).trans (hs 0), (hW.cell (by simp; omega)).trans (hs 1), (hW.cell (by simp; omega)).trans (hs 2), (hW.cell (by simp; omega)).trans (hs 3), (hW.cell (by simp; omega)).trans (he 0), (hW.cell (by simp; omega)).trans (he 1), (hW.cell (by simp; omega)).trans (he 2), hW⟩
  have HZ := Lib.hid hz2
  clear hz2
  go_region_held3 (fun x => x.cell? ⟨w.heap.size + 1, 0, none⟩ = some (.int .i64 s0) ∧ x.cell? ⟨w.heap.size + 1, 1, none⟩ = some (.int .i64 s1) ∧ x.cell? ⟨w.heap.size + 1, 2, none⟩ = some (.int .i64 s2) ∧ x.cell? ⟨w.heap.size + 1, 3, none⟩ = some (.bool s3) ∧ x.cell? ⟨w.heap.size + 1 + 1, 0, none⟩ = some (.int .i64 e0) ∧ x.cell? ⟨w.heap.size + 1 + 1, 1, none⟩ = some (.int .i64 e1) ∧ x.cell? ⟨w.heap.size + 1 + 1, 2, none⟩ = some (.int .i64 e2) ∧ Below w2.heap.size w2 x) (exact HZ.out _ (by repeat (first | exact Below.refl _ _ | (with_reducible apply below_alloc) | (with_reducible apply pw_below_drewN) | (with_reducible apply below_drew1) | (refine Below.setCell ?_ (by simp) _) | (refine Below.trans ?_ (hb3.mono (by simp))))))
    (first | (go_at_call 25; refine (chargeparkref12_phase.calls 9 _ _ _ _ _ _ _ _ _ HP.out).mono ?_; rintro e w3 ⟨rfl, hb3⟩; obtain ⟨hc3, hf3⟩ := bcell hb3; have hz3 := hb3.size))
  · rename_i hH_
    clear hH_
    have hO : Outs w3.heap.size T s1 s2 s3 w2 (w3.alloc (.cells #[.int .i64 T, .int .i64 s1, .int .i64 s2, .bool s3] 25)) := Outs.late (by repeat (first | exact Below.refl _ _ | (with_reducible apply below_alloc) | (with_reducible apply below_drew1) | (refine Below.trans ?_ (hb3.mono (by simp))))) _
    generalize (w3.alloc (.cells #[.int .i64 T, .int .i64 s1, .int .i64 s2, .bool s3] 25)) = W at hO ⊢
    generalize w3.heap.size = g at hO ⊢
    clear hb3 hc3 hf3 hz3
    obtain ⟨ho, hfo, hbO, hge⟩ := hO
    have ms : ∀ o, W.cell? ⟨w.heap.size + 1, o, none⟩ = #[Value.int .i64 s0, .int .i64 s1, .int .i64 s2, .bool s3][o]? := fun o => (hbO.cell (by simp; omega)).trans (hs o)
    have me : ∀ o, W.cell? ⟨w.heap.size + 1 + 1, o, none⟩ = #[Value.int .i64 e0, .int .i64 e1, .int .i64 e2][o]? := fun o => (hbO.cell (by simp; omega)).trans (he o)
    have mr : ∀ o, W.cell? ⟨w.heap.size + 1 + 1 + 1, o, none⟩ = #[Value.int .i64 0, .int .i64 0, .int .i64 0, .bool false][o]? := fun o => (hbO.cell (by simp; omega)).trans (hr o)
    have mfr : ∀ o, W.frozen? ⟨w.heap.size + 1 + 1 + 1, o, none⟩ = false := fun o => (hbO.frozen (by simp; omega)).trans (hfr o)
    have MB : Aside0 (Below w.heap.size w W) := Aside0.mk (HBE.out.trans (hbO.mono (by omega)))
    have g1 : g ≠ w.heap.size + 1 := by omega
    have g2 : g ≠ w.heap.size + 1 + 1 := by omega
    have g3 : g ≠ w.heap.size + 1 + 1 + 1 := by omega
    have g4 : w.heap.size ≤ g := by omega
    have n1 : w.heap.size + 1 ≠ g := by omega
    have n2 : w.heap.size + 1 + 1 ≠ g := by omega
    have n3 : w.heap.size + 1 + 1 + 1 ≠ g := by omega
    clear hs he hr hfs hfr hlt HBE hl1 hl2 HZ HP hbO hge
    clear hk0 hk1
    obtain rfl := hk.out
    clear hk
    go_upto_region 12 with (fail)
    go_upto_region 19 with (fail)
    go_upto_region 23 with (fail)
    go_wp2_with fail
    refine bodyPost_ret (v := .tuple #[.agg #[.int .i64 T, .int .i64 s1, .int .i64 s2, .bool s3], .int .i64 0]) (results_c4 _ _ (w.heap.size + 1 + 1 + 1) _ _ _ _ _ rfl rfl (row_put4 (z0 := .int .i64 0) (z1 := .int .i64 0) (z2 := .int .i64 0) (z3 := .bool false) ?_ _ _ _ _)) rfl ⟨by simp [refW, hy.out, hz.out], ?_⟩
    · with_reducible repeat (first | exact mr | refine row_far ?_ g3)
    · repeat (first | (with_reducible exact MB.out) | (refine Below.setCell ?_ (by simp only []; omega) _))
  · rename_i hH_
    clear hH_
    have hO : Outs w2.heap.size T s1 s2 s3 w2 ((((w3.setCell ⟨w2.heap.size, 0, none⟩ (.int .i64 T)).setCell ⟨w2.heap.size, 1, none⟩ (.int .i64 s1)).setCell ⟨w2.heap.size, 2, none⟩ (.int .i64 s2)).setCell ⟨w2.heap.size, 3, none⟩ (.bool s3)) := Outs.early (z0 := .int .i64 0) (z1 := .int .i64 0) (z2 := .int .i64 0) (z3 := .bool false) (fun o => (hb3.cell (by simp)).trans (by simp)) (fun o => (hb3.frozen (by simp)).trans (by simp)) (by repeat (first | exact Below.refl _ _ | (with_reducible apply below_alloc) | (with_reducible apply below_drew1) | (refine Below.trans ?_ (hb3.mono (by simp)))))
    generalize ((((w3.setCell ⟨w2.heap.size, 0, none⟩ (.int .i64 T)).setCell ⟨w2.heap.size, 1, none⟩ (.int .i64 s1)).setCell ⟨w2.heap.size, 2, none⟩ (.int .i64 s2)).setCell ⟨w2.heap.size, 3, none⟩ (.bool s3)) = W at hO ⊢
    generalize w2.heap.size = g at hO ⊢
    clear hb3 hc3 hf3 hz3
    obtain ⟨ho, hfo, hbO, hge⟩ := hO
    have ms : ∀ o, W.cell? ⟨w.heap.size + 1, o, none⟩ = #[Value.int .i64 s0, .int .i64 s1, .int .i64 s2, .bool s3][o]? := fun o => (hbO.cell (by simp; omega)).trans (hs o)
    have me : ∀ o, W.cell? ⟨w.heap.size + 1 + 1, o, none⟩ = #[Value.int .i64 e0, .int .i64 e1, .int .i64 e2][o]? := fun o => (hbO.cell (by simp; omega)).trans (he o)
    have mr : ∀ o, W.cell? ⟨w.heap.size + 1 + 1 + 1, o, none⟩ = #[Value.int .i64 0, .int .i64 0, .int .i64 0, .bool false][o]? := fun o => (hbO.cell (by simp; omega)).trans (hr o)
    have mfr : ∀ o, W.frozen? ⟨w.heap.size + 1 + 1 + 1, o, none⟩ = false := fun o => (hbO.frozen (by simp; omega)).trans (hfr o)
    have MB : Aside0 (Below w.heap.size w W) := Aside0.mk (HBE.out.trans (hbO.mono (by omega)))
    have g1 : g ≠ w.heap.size + 1 := by omega
    have g2 : g ≠ w.heap.size + 1 + 1 := by omega
    have g3 : g ≠ w.heap.size + 1 + 1 + 1 := by omega
    have g4 : w.heap.size ≤ g := by omega
    have n1 : w.heap.size + 1 ≠ g := by omega
    have n2 : w.heap.size + 1 + 1 ≠ g := by omega
    have n3 : w.heap.size + 1 + 1 + 1 ≠ g := by omega
    clear hs he hr hfs hfr hlt HBE hl1 hl2 HZ HP hbO hge
    clear hk0 hk1
    obtain rfl := hk.out
    clear hk
    go_upto_region 12 with (fail)
    go_upto_region 19 with (fail)
    go_upto_region 23 with (fail)
    go_wp2_with fail
    refine bodyPost_ret (v := .tuple #[.agg #[.int .i64 T, .int .i64 s1, .int .i64 s2, .bool s3], .int .i64 0]) (results_c4 _ _ (w.heap.size + 1 + 1 + 1) _ _ _ _ _ rfl rfl (row_put4 (z0 := .int .i64 0) (z1 := .int .i64 0) (z2 := .int .i64 0) (z3 := .bool false) ?_ _ _ _ _)) rfl ⟨by simp [refW, hy.out, hz.out], ?_⟩
    · with_reducible repeat (first | exact mr | refine row_far ?_ g3)
    · repeat (first | (with_reducible exact MB.out) | (refine Below.setCell ?_ (by simp only []; omega) _))

set_option maxHeartbeats 8000000 in
set_option maxRecDepth 100000 in
theorem rstep_oa (c0 : ByteArray) (c1 c2 c3 c4 c5 c6 c7 s0 s1 s2 : Int) (s3 : Bool) (e0 e1 e2 : Int) (w : World) (hv : chargeparkref12_Valid.f 9 c0 c1 c2 c3 c4 c5 c6 c7 s0 s1 s2 s3 = some true) (hf : chargeparkref12_Fits.f c0 c1 c2 c3 c4 c5 c6 c7 e0 e1 e2 = some true) (hk0 : decide (e0 < 1) = false) (hk1 : decide (9 < e0) = false) (T : Int) (hp : chargeparkref12_phase.f 9 s0 s1 s2 s3 e0 e1 e2 = some T) (hT : decide (T < 0) = false) (k6 : (e0 == 6) = false) (k7 : (e0 == 7) = false) (k8 : (e0 == 8) = false) (k9 : (e0 == 9) = false) (ko : Hid (e0 ≠ 6 ∧ e0 ≠ 7 ∧ e0 ≠ 8 ∧ e0 ≠ 9)) (hl : Hid (s2 = 0)) :
    Calls Tryd.prog 12 #[.agg #[.string c0, .int .i64 c1, .int .i64 c2, .int .i64 c3, .int .i64 c4, .int .i64 c5, .int .i64 c6, .int .i64 c7], .agg #[.int .i64 s0, .int .i64 s1, .int .i64 s2, .bool s3], .agg #[.int .i64 e0, .int .i64 e1, .int .i64 e2]] w
      fun e w' => e = .returned (.tuple #[.agg #[.int .i64 (refW T s1 s2 s3 e0 e1 e2).1, .int .i64 (refW T s1 s2 s3 e0 e1 e2).2.1, .int .i64 (refW T s1 s2 s3 e0 e1 e2).2.2.1, .bool (refW T s1 s2 s3 e0 e1 e2).2.2.2], .int .i64 0]) ∧ Below w.heap.size w w' := by
  have HP := Aside0.mk hp
  clear hp
  have HV := Aside0.mk hv
  have HF := Aside0.mk hf
  clear hv hf
  go_enter Tryd.func12, Tryd.ntmps12
  go_wp2_with fail
  refine (chargeparkref12_Valid.calls 9 _ _ _ _ _ _ _ _ _ _ _ _ true _ HV.out).mono ?_
  rintro e w1 ⟨rfl, hb1⟩
  have B1 := (Boxes.start c0 c1 c2 c3 c4 c5 c6 c7 s0 s1 s2 s3 e0 e1 e2 w).below hb1
  clear hb1 HV
  obtain ⟨hc, hs, he, hr, hfs, hfr, hlt, hbe⟩ := id B1
  have HB1 := Aside0.mk B1
  clear B1 hbe
  go_wp2_with fail
  refine (chargeparkref12_Fits.calls _ _ _ _ _ _ _ _ _ _ _ true _ HF.out).mono ?_
  rintro e w2 ⟨rfl, hb2⟩
  have B2 := HB1.out.below hb2
  clear HB1 hb2 HF hc hs he hr hfs hfr hlt
  obtain ⟨hc, hs, he, hr, hfs, hfr, hlt, hbe⟩ := B2
  have HBE := Aside0.mk hbe
  clear hbe
  have hl1 : w.heap.size + 1 < w2.heap.size := by omega
  have hl2 : w.heap.size + 1 + 1 < w2.heap.size := by omega
  go_wp2_with fail
  clear hc
  have hz2 : ∀ W : World, Below w2.heap.size w2 W → W.cell? ⟨w.heap.size + 1, 0, none⟩ = some (.int .i64 s0) ∧ W.cell? ⟨w.heap.size + 1, 1, none⟩ = some (.int .i64 s1) ∧ W.cell? ⟨w.heap.size + 1, 2, none⟩ = some (.int .i64 s2) ∧ W.cell? ⟨w.heap.size + 1, 3, none⟩ = some (.bool s3) ∧ W.cell? ⟨w.heap.size + 1 + 1, 0, none⟩ = some (.int .i64 e0) ∧ W.cell? ⟨w.heap.size + 1 + 1, 1, none⟩ = some (.int .i64 e1) ∧ W.cell? ⟨w.heap.size + 1 + 1, 2, none⟩ = some (.int .i64 e2) ∧ Below w2.heap.size w2 W := fun W hW => ⟨(hW.cell (by simp; omega)).trans (hs 0), (hW.cell (by simp; omega)).trans (hs 1), (hW.cell (by simp; omega)).trans (hs 2), (hW.cell (by simp; omega)).trans (hs 3), (hW.cell (by simp; omega)).trans (he 0), (hW.cell (by simp; omega)).trans (he 1), (hW.cell (by simp; omega)).trans (he 2), hW⟩
  have HZ := Lib.hid hz2
  clear hz2
  go_region_held3 (fun x => x.cell? ⟨w.heap.size + 1, 0, none⟩ = some (.int .i64 s0) ∧ x.cell? ⟨w.heap.size + 1, 1, none⟩ = some (.int .i64 s1) ∧ x.cell? ⟨w.heap.size + 1, 2, none⟩ = some (.int .i64 s2) ∧ x.cell? ⟨w.heap.size + 1, 3, none⟩ = some (.bool s3) ∧ x.cell? ⟨w.heap.size + 1 + 1, 0, none⟩ = some (.int .i64 e0) ∧ x.cell? ⟨w.heap.size + 1 + 1, 1, none⟩ = some (.int .i64 e1) ∧ x.cell? ⟨w.heap.size + 1 + 1, 2, none⟩ = some (.int .i64 e2) ∧ Below w2.heap.size w2 x) (exact HZ.out _ (by repeat (first | exact Below.refl _ _ | (with_reducible apply below_alloc) | (with_reducible apply pw_below_drewN) | (with_reducible apply below_drew1) | (refine Below.setCell ?_ (by simp) _) | (refine Below.trans ?_ (hb3.mono (by simp))))))
    (first | (go_at_call 25; refine (chargeparkref12_phase.calls 9 _ _ _ _ _ _ _ _ _ HP.out).mono ?_; rintro e w3 ⟨rfl, hb3⟩; obtain ⟨hc3, hf3⟩ := bcell hb3; have hz3 := hb3.size))
  · rename_i hH_
    clear hH_
    have hO : Outs w3.heap.size T s1 s2 s3 w2 (w3.alloc (.cells #[.int .i64 T, .int .i64 s1, .int .i64 s2, .bool s3] 25)) := Outs.late (by repeat (first | exact Below.refl _ _ | (with_reducible apply below_alloc) | (with_reducible apply below_drew1) | (refine Below.trans ?_ (hb3.mono (by simp))))) _
    generalize (w3.alloc (.cells #[.int .i64 T, .int .i64 s1, .int .i64 s2, .bool s3] 25)) = W at hO ⊢
    generalize w3.heap.size = g at hO ⊢
    clear hb3 hc3 hf3 hz3
    obtain ⟨ho, hfo, hbO, hge⟩ := hO
    have ms : ∀ o, W.cell? ⟨w.heap.size + 1, o, none⟩ = #[Value.int .i64 s0, .int .i64 s1, .int .i64 s2, .bool s3][o]? := fun o => (hbO.cell (by simp; omega)).trans (hs o)
    have me : ∀ o, W.cell? ⟨w.heap.size + 1 + 1, o, none⟩ = #[Value.int .i64 e0, .int .i64 e1, .int .i64 e2][o]? := fun o => (hbO.cell (by simp; omega)).trans (he o)
    have mr : ∀ o, W.cell? ⟨w.heap.size + 1 + 1 + 1, o, none⟩ = #[Value.int .i64 0, .int .i64 0, .int .i64 0, .bool false][o]? := fun o => (hbO.cell (by simp; omega)).trans (hr o)
    have mfr : ∀ o, W.frozen? ⟨w.heap.size + 1 + 1 + 1, o, none⟩ = false := fun o => (hbO.frozen (by simp; omega)).trans (hfr o)
    have MB : Aside0 (Below w.heap.size w W) := Aside0.mk (HBE.out.trans (hbO.mono (by omega)))
    have g1 : g ≠ w.heap.size + 1 := by omega
    have g2 : g ≠ w.heap.size + 1 + 1 := by omega
    have g3 : g ≠ w.heap.size + 1 + 1 + 1 := by omega
    have g4 : w.heap.size ≤ g := by omega
    have n1 : w.heap.size + 1 ≠ g := by omega
    have n2 : w.heap.size + 1 + 1 ≠ g := by omega
    have n3 : w.heap.size + 1 + 1 + 1 ≠ g := by omega
    clear hs he hr hfs hfr hlt HBE hl1 hl2 HZ HP hbO hge
    clear hk0 hk1
    obtain rfl := hl.out
    clear hl
    go_upto_region 12 with (fail)
    go_upto_region 19 with (fail)
    go_upto_region 23 with (fail)
    go_wp2_with fail
    refine bodyPost_ret (v := .tuple #[.agg #[.int .i64 T, .int .i64 0, .int .i64 0, .bool s3], .int .i64 0]) (results_c4 _ _ (w.heap.size + 1 + 1 + 1) _ _ _ _ _ rfl rfl (row_put4 (z0 := .int .i64 0) (z1 := .int .i64 0) (z2 := .int .i64 0) (z3 := .bool false) ?_ _ _ _ _)) rfl ⟨by simp [refW, ko.out.1, ko.out.2.1, ko.out.2.2.1, ko.out.2.2.2], ?_⟩
    · with_reducible repeat (first | exact mr | refine row_far ?_ g3)
    · repeat (first | (with_reducible exact MB.out) | (refine Below.setCell ?_ (by simp only []; omega) _))
  · rename_i hH_
    clear hH_
    have hO : Outs w2.heap.size T s1 s2 s3 w2 ((((w3.setCell ⟨w2.heap.size, 0, none⟩ (.int .i64 T)).setCell ⟨w2.heap.size, 1, none⟩ (.int .i64 s1)).setCell ⟨w2.heap.size, 2, none⟩ (.int .i64 s2)).setCell ⟨w2.heap.size, 3, none⟩ (.bool s3)) := Outs.early (z0 := .int .i64 0) (z1 := .int .i64 0) (z2 := .int .i64 0) (z3 := .bool false) (fun o => (hb3.cell (by simp)).trans (by simp)) (fun o => (hb3.frozen (by simp)).trans (by simp)) (by repeat (first | exact Below.refl _ _ | (with_reducible apply below_alloc) | (with_reducible apply below_drew1) | (refine Below.trans ?_ (hb3.mono (by simp)))))
    generalize ((((w3.setCell ⟨w2.heap.size, 0, none⟩ (.int .i64 T)).setCell ⟨w2.heap.size, 1, none⟩ (.int .i64 s1)).setCell ⟨w2.heap.size, 2, none⟩ (.int .i64 s2)).setCell ⟨w2.heap.size, 3, none⟩ (.bool s3)) = W at hO ⊢
    generalize w2.heap.size = g at hO ⊢
    clear hb3 hc3 hf3 hz3
    obtain ⟨ho, hfo, hbO, hge⟩ := hO
    have ms : ∀ o, W.cell? ⟨w.heap.size + 1, o, none⟩ = #[Value.int .i64 s0, .int .i64 s1, .int .i64 s2, .bool s3][o]? := fun o => (hbO.cell (by simp; omega)).trans (hs o)
    have me : ∀ o, W.cell? ⟨w.heap.size + 1 + 1, o, none⟩ = #[Value.int .i64 e0, .int .i64 e1, .int .i64 e2][o]? := fun o => (hbO.cell (by simp; omega)).trans (he o)
    have mr : ∀ o, W.cell? ⟨w.heap.size + 1 + 1 + 1, o, none⟩ = #[Value.int .i64 0, .int .i64 0, .int .i64 0, .bool false][o]? := fun o => (hbO.cell (by simp; omega)).trans (hr o)
    have mfr : ∀ o, W.frozen? ⟨w.heap.size + 1 + 1 + 1, o, none⟩ = false := fun o => (hbO.frozen (by simp; omega)).trans (hfr o)
    have MB : Aside0 (Below w.heap.size w W) := Aside0.mk (HBE.out.trans (hbO.mono (by omega)))
    have g1 : g ≠ w.heap.size + 1 := by omega
    have g2 : g ≠ w.heap.size + 1 + 1 := by omega
    have g3 : g ≠ w.heap.size + 1 + 1 + 1 := by omega
    have g4 : w.heap.size ≤ g := by omega
    have n1 : w.heap.size + 1 ≠ g := by omega
    have n2 : w.heap.size + 1 + 1 ≠ g := by omega
    have n3 : w.heap.size + 1 + 1 + 1 ≠ g := by omega
    clear hs he hr hfs hfr hlt HBE hl1 hl2 HZ HP hbO hge
    clear hk0 hk1
    obtain rfl := hl.out
    clear hl
    go_upto_region 12 with (fail)
    go_upto_region 19 with (fail)
    go_upto_region 23 with (fail)
    go_wp2_with fail
    refine bodyPost_ret (v := .tuple #[.agg #[.int .i64 T, .int .i64 0, .int .i64 0, .bool s3], .int .i64 0]) (results_c4 _ _ (w.heap.size + 1 + 1 + 1) _ _ _ _ _ rfl rfl (row_put4 (z0 := .int .i64 0) (z1 := .int .i64 0) (z2 := .int .i64 0) (z3 := .bool false) ?_ _ _ _ _)) rfl ⟨by simp [refW, ko.out.1, ko.out.2.1, ko.out.2.2.1, ko.out.2.2.2], ?_⟩
    · with_reducible repeat (first | exact mr | refine row_far ?_ g3)
    · repeat (first | (with_reducible exact MB.out) | (refine Below.setCell ?_ (by simp only []; omega) _))

set_option maxHeartbeats 8000000 in
set_option maxRecDepth 100000 in
theorem rstep_ob (c0 : ByteArray) (c1 c2 c3 c4 c5 c6 c7 s0 s1 s2 : Int) (s3 : Bool) (e0 e1 e2 : Int) (w : World) (hv : chargeparkref12_Valid.f 9 c0 c1 c2 c3 c4 c5 c6 c7 s0 s1 s2 s3 = some true) (hf : chargeparkref12_Fits.f c0 c1 c2 c3 c4 c5 c6 c7 e0 e1 e2 = some true) (hk0 : decide (e0 < 1) = false) (hk1 : decide (9 < e0) = false) (T : Int) (hp : chargeparkref12_phase.f 9 s0 s1 s2 s3 e0 e1 e2 = some T) (hT : decide (T < 0) = false) (k6 : (e0 == 6) = false) (k7 : (e0 == 7) = false) (k8 : (e0 == 8) = false) (k9 : (e0 == 9) = false) (ko : Hid (e0 ≠ 6 ∧ e0 ≠ 7 ∧ e0 ≠ 8 ∧ e0 ≠ 9)) (hl : (s2 == 0) = false) (hz : Hid (s2 ≠ 0)) :
    Calls Tryd.prog 12 #[.agg #[.string c0, .int .i64 c1, .int .i64 c2, .int .i64 c3, .int .i64 c4, .int .i64 c5, .int .i64 c6, .int .i64 c7], .agg #[.int .i64 s0, .int .i64 s1, .int .i64 s2, .bool s3], .agg #[.int .i64 e0, .int .i64 e1, .int .i64 e2]] w
      fun e w' => e = .returned (.tuple #[.agg #[.int .i64 (refW T s1 s2 s3 e0 e1 e2).1, .int .i64 (refW T s1 s2 s3 e0 e1 e2).2.1, .int .i64 (refW T s1 s2 s3 e0 e1 e2).2.2.1, .bool (refW T s1 s2 s3 e0 e1 e2).2.2.2], .int .i64 0]) ∧ Below w.heap.size w w' := by
  have HP := Aside0.mk hp
  clear hp
  have HV := Aside0.mk hv
  have HF := Aside0.mk hf
  clear hv hf
  go_enter Tryd.func12, Tryd.ntmps12
  go_wp2_with fail
  refine (chargeparkref12_Valid.calls 9 _ _ _ _ _ _ _ _ _ _ _ _ true _ HV.out).mono ?_
  rintro e w1 ⟨rfl, hb1⟩
  have B1 := (Boxes.start c0 c1 c2 c3 c4 c5 c6 c7 s0 s1 s2 s3 e0 e1 e2 w).below hb1
  clear hb1 HV
  obtain ⟨hc, hs, he, hr, hfs, hfr, hlt, hbe⟩ := id B1
  have HB1 := Aside0.mk B1
  clear B1 hbe
  go_wp2_with fail
  refine (chargeparkref12_Fits.calls _ _ _ _ _ _ _ _ _ _ _ true _ HF.out).mono ?_
  rintro e w2 ⟨rfl, hb2⟩
  have B2 := HB1.out.below hb2
  clear HB1 hb2 HF hc hs he hr hfs hfr hlt
  obtain ⟨hc, hs, he, hr, hfs, hfr, hlt, hbe⟩ := B2
  have HBE := Aside0.mk hbe
  clear hbe
  have hl1 : w.heap.size + 1 < w2.heap.size := by omega
  have hl2 : w.heap.size + 1 + 1 < w2.heap.size := by omega
  go_wp2_with fail
  clear hc
  have hz2 : ∀ W : World, Below w2.heap.size w2 W → W.cell? ⟨w.heap.size + 1, 0, none⟩ = some (.int .i64 s0) ∧ W.cell? ⟨w.heap.size + 1, 1, none⟩ = some (.int .i64 s1) ∧ W.cell? ⟨w.heap.size + 1, 2, none⟩ = some (.int .i64 s2) ∧ W.cell? ⟨w.heap.size + 1, 3, none⟩ = some (.bool s3) ∧ W.cell? ⟨w.heap.size + 1 + 1, 0, none⟩ = some (.int .i64 e0) ∧ W.cell? ⟨w.heap.size + 1 + 1, 1, none⟩ = some (.int .i64 e1) ∧ W.cell? ⟨w.heap.size + 1 + 1, 2, none⟩ = some (.int .i64 e2) ∧ Below w2.heap.size w2 W := fun W hW => ⟨(hW.cell (by simp; omega)).trans (hs 0), (hW.cell (by simp; omega)).trans (hs 1), (hW.cell (by simp; omega)).trans (hs 2), (hW.cell (by simp; omega)).trans (hs 3), (hW.cell (by simp; omega)).trans (he 0), (hW.cell (by simp; omega)).trans (he 1), (hW.cell (by simp; omega)).trans (he 2), hW⟩
  have HZ := Lib.hid hz2
  clear hz2
  go_region_held3 (fun x => x.cell? ⟨w.heap.size + 1, 0, none⟩ = some (.int .i64 s0) ∧ x.cell? ⟨w.heap.size + 1, 1, none⟩ = some (.int .i64 s1) ∧ x.cell? ⟨w.heap.size + 1, 2, none⟩ = some (.int .i64 s2) ∧ x.cell? ⟨w.heap.size + 1, 3, none⟩ = some (.bool s3) ∧ x.cell? ⟨w.heap.size + 1 + 1, 0, none⟩ = some (.int .i64 e0) ∧ x.cell? ⟨w.heap.size + 1 + 1, 1, none⟩ = some (.int .i64 e1) ∧ x.cell? ⟨w.heap.size + 1 + 1, 2, none⟩ = some (.int .i64 e2) ∧ Below w2.heap.size w2 x) (exact HZ.out _ (by repeat (first | exact Below.refl _ _ | (with_reducible apply below_alloc) | (with_reducible apply pw_below_drewN) | (with_reducible apply below_drew1) | (refine Below.setCell ?_ (by simp) _) | (refine Below.trans ?_ (hb3.mono (by simp))))))
    (first | (go_at_call 25; refine (chargeparkref12_phase.calls 9 _ _ _ _ _ _ _ _ _ HP.out).mono ?_; rintro e w3 ⟨rfl, hb3⟩; obtain ⟨hc3, hf3⟩ := bcell hb3; have hz3 := hb3.size))
  · rename_i hH_
    clear hH_
    have hO : Outs w3.heap.size T s1 s2 s3 w2 (w3.alloc (.cells #[.int .i64 T, .int .i64 s1, .int .i64 s2, .bool s3] 25)) := Outs.late (by repeat (first | exact Below.refl _ _ | (with_reducible apply below_alloc) | (with_reducible apply below_drew1) | (refine Below.trans ?_ (hb3.mono (by simp))))) _
    generalize (w3.alloc (.cells #[.int .i64 T, .int .i64 s1, .int .i64 s2, .bool s3] 25)) = W at hO ⊢
    generalize w3.heap.size = g at hO ⊢
    clear hb3 hc3 hf3 hz3
    obtain ⟨ho, hfo, hbO, hge⟩ := hO
    have ms : ∀ o, W.cell? ⟨w.heap.size + 1, o, none⟩ = #[Value.int .i64 s0, .int .i64 s1, .int .i64 s2, .bool s3][o]? := fun o => (hbO.cell (by simp; omega)).trans (hs o)
    have me : ∀ o, W.cell? ⟨w.heap.size + 1 + 1, o, none⟩ = #[Value.int .i64 e0, .int .i64 e1, .int .i64 e2][o]? := fun o => (hbO.cell (by simp; omega)).trans (he o)
    have mr : ∀ o, W.cell? ⟨w.heap.size + 1 + 1 + 1, o, none⟩ = #[Value.int .i64 0, .int .i64 0, .int .i64 0, .bool false][o]? := fun o => (hbO.cell (by simp; omega)).trans (hr o)
    have mfr : ∀ o, W.frozen? ⟨w.heap.size + 1 + 1 + 1, o, none⟩ = false := fun o => (hbO.frozen (by simp; omega)).trans (hfr o)
    have MB : Aside0 (Below w.heap.size w W) := Aside0.mk (HBE.out.trans (hbO.mono (by omega)))
    have g1 : g ≠ w.heap.size + 1 := by omega
    have g2 : g ≠ w.heap.size + 1 + 1 := by omega
    have g3 : g ≠ w.heap.size + 1 + 1 + 1 := by omega
    have g4 : w.heap.size ≤ g := by omega
    have n1 : w.heap.size + 1 ≠ g := by omega
    have n2 : w.heap.size + 1 + 1 ≠ g := by omega
    have n3 : w.heap.size + 1 + 1 + 1 ≠ g := by omega
    clear hs he hr hfs hfr hlt HBE hl1 hl2 HZ HP hbO hge
    clear hk0 hk1
    go_upto_region 12 with (fail)
    go_upto_region 19 with (fail)
    go_upto_region 23 with (fail)
    go_wp2_with fail
    refine bodyPost_ret (v := .tuple #[.agg #[.int .i64 T, .int .i64 s1, .int .i64 s2, .bool s3], .int .i64 0]) (results_c4 _ _ (w.heap.size + 1 + 1 + 1) _ _ _ _ _ rfl rfl (row_put4 (z0 := .int .i64 0) (z1 := .int .i64 0) (z2 := .int .i64 0) (z3 := .bool false) ?_ _ _ _ _)) rfl ⟨by simp [refW, ko.out.1, ko.out.2.1, ko.out.2.2.1, ko.out.2.2.2, hz.out], ?_⟩
    · with_reducible repeat (first | exact mr | refine row_far ?_ g3)
    · repeat (first | (with_reducible exact MB.out) | (refine Below.setCell ?_ (by simp only []; omega) _))
  · rename_i hH_
    clear hH_
    have hO : Outs w2.heap.size T s1 s2 s3 w2 ((((w3.setCell ⟨w2.heap.size, 0, none⟩ (.int .i64 T)).setCell ⟨w2.heap.size, 1, none⟩ (.int .i64 s1)).setCell ⟨w2.heap.size, 2, none⟩ (.int .i64 s2)).setCell ⟨w2.heap.size, 3, none⟩ (.bool s3)) := Outs.early (z0 := .int .i64 0) (z1 := .int .i64 0) (z2 := .int .i64 0) (z3 := .bool false) (fun o => (hb3.cell (by simp)).trans (by simp)) (fun o => (hb3.frozen (by simp)).trans (by simp)) (by repeat (first | exact Below.refl _ _ | (with_reducible apply below_alloc) | (with_reducible apply below_drew1) | (refine Below.trans ?_ (hb3.mono (by simp)))))
    generalize ((((w3.setCell ⟨w2.heap.size, 0, none⟩ (.int .i64 T)).setCell ⟨w2.heap.size, 1, none⟩ (.int .i64 s1)).setCell ⟨w2.heap.size, 2, none⟩ (.int .i64 s2)).setCell ⟨w2.heap.size, 3, none⟩ (.bool s3)) = W at hO ⊢
    generalize w2.heap.size = g at hO ⊢
    clear hb3 hc3 hf3 hz3
    obtain ⟨ho, hfo, hbO, hge⟩ := hO
    have ms : ∀ o, W.cell? ⟨w.heap.size + 1, o, none⟩ = #[Value.int .i64 s0, .int .i64 s1, .int .i64 s2, .bool s3][o]? := fun o => (hbO.cell (by simp; omega)).trans (hs o)
    have me : ∀ o, W.cell? ⟨w.heap.size + 1 + 1, o, none⟩ = #[Value.int .i64 e0, .int .i64 e1, .int .i64 e2][o]? := fun o => (hbO.cell (by simp; omega)).trans (he o)
    have mr : ∀ o, W.cell? ⟨w.heap.size + 1 + 1 + 1, o, none⟩ = #[Value.int .i64 0, .int .i64 0, .int .i64 0, .bool false][o]? := fun o => (hbO.cell (by simp; omega)).trans (hr o)
    have mfr : ∀ o, W.frozen? ⟨w.heap.size + 1 + 1 + 1, o, none⟩ = false := fun o => (hbO.frozen (by simp; omega)).trans (hfr o)
    have MB : Aside0 (Below w.heap.size w W) := Aside0.mk (HBE.out.trans (hbO.mono (by omega)))
    have g1 : g ≠ w.heap.size + 1 := by omega
    have g2 : g ≠ w.heap.size + 1 + 1 := by omega
    have g3 : g ≠ w.heap.size + 1 + 1 + 1 := by omega
    have g4 : w.heap.size ≤ g := by omega
    have n1 : w.heap.size + 1 ≠ g := by omega
    have n2 : w.heap.size + 1 + 1 ≠ g := by omega
    have n3 : w.heap.size + 1 + 1 + 1 ≠ g := by omega
    clear hs he hr hfs hfr hlt HBE hl1 hl2 HZ HP hbO hge
    clear hk0 hk1
    go_upto_region 12 with (fail)
    go_upto_region 19 with (fail)
    go_upto_region 23 with (fail)
    go_wp2_with fail
    refine bodyPost_ret (v := .tuple #[.agg #[.int .i64 T, .int .i64 s1, .int .i64 s2, .bool s3], .int .i64 0]) (results_c4 _ _ (w.heap.size + 1 + 1 + 1) _ _ _ _ _ rfl rfl (row_put4 (z0 := .int .i64 0) (z1 := .int .i64 0) (z2 := .int .i64 0) (z3 := .bool false) ?_ _ _ _ _)) rfl ⟨by simp [refW, ko.out.1, ko.out.2.1, ko.out.2.2.1, ko.out.2.2.2, hz.out], ?_⟩
    · with_reducible repeat (first | exact mr | refine row_far ?_ g3)
    · repeat (first | (with_reducible exact MB.out) | (refine Below.setCell ?_ (by simp only []; omega) _))

set_option maxRecDepth 100000 in
theorem chargeparkref12_Step.calls (a0_0 : ByteArray) (a0_1 : Int) (a0_2 : Int) (a0_3 : Int) (a0_4 : Int) (a0_5 : Int) (a0_6 : Int) (a0_7 : Int) (a1_0 : Int) (a1_1 : Int) (a1_2 : Int) (a1_3 : Bool) (a2_0 : Int) (a2_1 : Int) (a2_2 : Int) (r1 : Int) (r2 : Int) (r3 : Int) (r4 : Bool) (r5 : Int) (w : World) (h : chargeparkref12_Step.f a0_0 a0_1 a0_2 a0_3 a0_4 a0_5 a0_6 a0_7 a1_0 a1_1 a1_2 a1_3 a2_0 a2_1 a2_2 = some (r1, r2, r3, r4, r5)) :
    Calls Tryd.prog 12 #[.agg #[.string a0_0, .int .i64 a0_1, .int .i64 a0_2, .int .i64 a0_3, .int .i64 a0_4, .int .i64 a0_5, .int .i64 a0_6, .int .i64 a0_7], .agg #[.int .i64 a1_0, .int .i64 a1_1, .int .i64 a1_2, .bool a1_3], .agg #[.int .i64 a2_0, .int .i64 a2_1, .int .i64 a2_2]] w fun e w' => e = .returned (.tuple #[.agg #[.int .i64 r1, .int .i64 r2, .int .i64 r3, .bool r4], .int .i64 r5]) ∧ Below w.heap.size w w' := by
  unfold chargeparkref12_Step.f at h
  obtain ⟨v, hv, h⟩ := Option.bind_eq_some_iff.mp h
  obtain ⟨t, hf, h⟩ := Option.bind_eq_some_iff.mp h
  cases v with
  | false =>
    rw [if_neg (by decide)] at h
    simp only [Option.some.injEq, Prod.mk.injEq] at h; obtain ⟨rfl, rfl, rfl, rfl, rfl⟩ := h
    exact rstep_invalid a0_0 a0_1 a0_2 a0_3 a0_4 a0_5 a0_6 a0_7 a1_0 a1_1 a1_2 a1_3 a2_0 a2_1 a2_2 w t hv hf
  | true =>
    rw [if_pos rfl] at h
    by_cases hk : 1 ≤ a2_0 ∧ a2_0 ≤ 9
    · rw [if_pos hk] at h
      cases t with
      | false =>
        rw [if_neg (by decide)] at h
        simp only [Option.some.injEq, Prod.mk.injEq] at h; obtain ⟨rfl, rfl, rfl, rfl, rfl⟩ := h
        exact rstep_fits a0_0 a0_1 a0_2 a0_3 a0_4 a0_5 a0_6 a0_7 a1_0 a1_1 a1_2 a1_3 a2_0 a2_1 a2_2 w hv hf (decide_eq_false (show ¬ a2_0 < 1 by omega)) (decide_eq_false (show ¬ 9 < a2_0 by omega))
      | true =>
        rw [if_pos rfl] at h
        obtain ⟨p, hp, h⟩ := Option.bind_eq_some_iff.mp h
        by_cases hl : 0 ≤ a1_2 ∧ a1_2 ≤ 1000000
        · rw [if_pos hl] at h
          by_cases hT : p < 0
          · rw [if_pos hT] at h
            simp only [Option.some.injEq, Prod.mk.injEq] at h; obtain ⟨rfl, rfl, rfl, rfl, rfl⟩ := h
            exact rstep_state a0_0 a0_1 a0_2 a0_3 a0_4 a0_5 a0_6 a0_7 a1_0 a1_1 a1_2 a1_3 a2_0 a2_1 a2_2 w hv hf (decide_eq_false (show ¬ a2_0 < 1 by omega)) (decide_eq_false (show ¬ 9 < a2_0 by omega)) p hp (decide_eq_true hT)
          · rw [if_neg hT] at h
            simp only [Option.some.injEq, Prod.mk.injEq] at h; obtain ⟨rfl, rfl, rfl, rfl, rfl⟩ := h
            by_cases k7 : a2_0 = 7
            · by_cases m0 : a2_2 = 0
              · exact rstep_7a a0_0 a0_1 a0_2 a0_3 a0_4 a0_5 a0_6 a0_7 a1_0 a1_1 a1_2 a1_3 a2_0 a2_1 a2_2 w hv hf (decide_eq_false (show ¬ a2_0 < 1 by omega)) (decide_eq_false (show ¬ 9 < a2_0 by omega)) p hp (decide_eq_false hT) k7 m0
              · exact rstep_7b a0_0 a0_1 a0_2 a0_3 a0_4 a0_5 a0_6 a0_7 a1_0 a1_1 a1_2 a1_3 a2_0 a2_1 a2_2 w hv hf (decide_eq_false (show ¬ a2_0 < 1 by omega)) (decide_eq_false (show ¬ 9 < a2_0 by omega)) p hp (decide_eq_false hT) k7 (beq_eq_false_iff_ne.2 m0) m0
            · by_cases k8 : a2_0 = 8
              · by_cases l1 : 1 < a1_2
                · exact rstep_8a a0_0 a0_1 a0_2 a0_3 a0_4 a0_5 a0_6 a0_7 a1_0 a1_1 a1_2 a1_3 a2_0 a2_1 a2_2 w hv hf (decide_eq_false (show ¬ a2_0 < 1 by omega)) (decide_eq_false (show ¬ 9 < a2_0 by omega)) p hp (decide_eq_false hT) k8 l1 hl.2
                · by_cases l0 : a1_2 = 0
                  · exact rstep_8b a0_0 a0_1 a0_2 a0_3 a0_4 a0_5 a0_6 a0_7 a1_0 a1_1 a1_2 a1_3 a2_0 a2_1 a2_2 w hv hf (decide_eq_false (show ¬ a2_0 < 1 by omega)) (decide_eq_false (show ¬ 9 < a2_0 by omega)) p hp (decide_eq_false hT) k8 l0
                  · exact rstep_8c a0_0 a0_1 a0_2 a0_3 a0_4 a0_5 a0_6 a0_7 a1_0 a1_1 a1_2 a1_3 a2_0 a2_1 a2_2 w hv hf (decide_eq_false (show ¬ a2_0 < 1 by omega)) (decide_eq_false (show ¬ 9 < a2_0 by omega)) p hp (decide_eq_false hT) k8 (show a1_2 = 1 by omega)
              · by_cases k9 : a2_0 = 9
                · exact rstep_9 a0_0 a0_1 a0_2 a0_3 a0_4 a0_5 a0_6 a0_7 a1_0 a1_1 a1_2 a1_3 a2_0 a2_1 a2_2 w hv hf (decide_eq_false (show ¬ a2_0 < 1 by omega)) (decide_eq_false (show ¬ 9 < a2_0 by omega)) p hp (decide_eq_false hT) k9
                · by_cases k6 : a2_0 = 6
                  · by_cases n1 : a2_1 = 1
                    · by_cases l0 : a1_2 = 0
                      · exact rstep_6a a0_0 a0_1 a0_2 a0_3 a0_4 a0_5 a0_6 a0_7 a1_0 a1_1 a1_2 a1_3 a2_0 a2_1 a2_2 w hv hf (decide_eq_false (show ¬ a2_0 < 1 by omega)) (decide_eq_false (show ¬ 9 < a2_0 by omega)) p hp (decide_eq_false hT) k6 n1 l0
                      · exact rstep_6b a0_0 a0_1 a0_2 a0_3 a0_4 a0_5 a0_6 a0_7 a1_0 a1_1 a1_2 a1_3 a2_0 a2_1 a2_2 w hv hf (decide_eq_false (show ¬ a2_0 < 1 by omega)) (decide_eq_false (show ¬ 9 < a2_0 by omega)) p hp (decide_eq_false hT) k6 n1 (beq_eq_false_iff_ne.2 l0) l0
                    · by_cases l0 : a1_2 = 0
                      · exact rstep_6c a0_0 a0_1 a0_2 a0_3 a0_4 a0_5 a0_6 a0_7 a1_0 a1_1 a1_2 a1_3 a2_0 a2_1 a2_2 w hv hf (decide_eq_false (show ¬ a2_0 < 1 by omega)) (decide_eq_false (show ¬ 9 < a2_0 by omega)) p hp (decide_eq_false hT) k6 (beq_eq_false_iff_ne.2 n1) n1 l0
                      · exact rstep_6d a0_0 a0_1 a0_2 a0_3 a0_4 a0_5 a0_6 a0_7 a1_0 a1_1 a1_2 a1_3 a2_0 a2_1 a2_2 w hv hf (decide_eq_false (show ¬ a2_0 < 1 by omega)) (decide_eq_false (show ¬ 9 < a2_0 by omega)) p hp (decide_eq_false hT) k6 (beq_eq_false_iff_ne.2 n1) n1 (beq_eq_false_iff_ne.2 l0) l0
                  · by_cases l0 : a1_2 = 0
                    · exact rstep_oa a0_0 a0_1 a0_2 a0_3 a0_4 a0_5 a0_6 a0_7 a1_0 a1_1 a1_2 a1_3 a2_0 a2_1 a2_2 w hv hf (decide_eq_false (show ¬ a2_0 < 1 by omega)) (decide_eq_false (show ¬ 9 < a2_0 by omega)) p hp (decide_eq_false hT) (beq_eq_false_iff_ne.2 k6) (beq_eq_false_iff_ne.2 k7) (beq_eq_false_iff_ne.2 k8) (beq_eq_false_iff_ne.2 k9) ⟨k6, k7, k8, k9⟩ l0
                    · exact rstep_ob a0_0 a0_1 a0_2 a0_3 a0_4 a0_5 a0_6 a0_7 a1_0 a1_1 a1_2 a1_3 a2_0 a2_1 a2_2 w hv hf (decide_eq_false (show ¬ a2_0 < 1 by omega)) (decide_eq_false (show ¬ 9 < a2_0 by omega)) p hp (decide_eq_false hT) (beq_eq_false_iff_ne.2 k6) (beq_eq_false_iff_ne.2 k7) (beq_eq_false_iff_ne.2 k8) (beq_eq_false_iff_ne.2 k9) ⟨k6, k7, k8, k9⟩ (beq_eq_false_iff_ne.2 l0) l0
        · rw [if_neg hl] at h
          exact absurd h (by simp)
    · rw [if_neg hk] at h
      simp only [Option.some.injEq, Prod.mk.injEq] at h; obtain ⟨rfl, rfl, rfl, rfl, rfl⟩ := h
      by_cases h1 : a2_0 < 1
      · exact rstep_lo a0_0 a0_1 a0_2 a0_3 a0_4 a0_5 a0_6 a0_7 a1_0 a1_1 a1_2 a1_3 a2_0 a2_1 a2_2 w t hv hf (decide_eq_true h1)
      · exact rstep_hi a0_0 a0_1 a0_2 a0_3 a0_4 a0_5 a0_6 a0_7 a1_0 a1_1 a1_2 a1_3 a2_0 a2_1 a2_2 w t hv hf (decide_eq_false h1) (decide_eq_true (show 9 < a2_0 by omega))

end Go.Proofs.YtnfanhnflcjphaaDoor.PAll
