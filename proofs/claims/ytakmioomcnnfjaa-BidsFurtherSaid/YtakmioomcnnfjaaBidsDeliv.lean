/- bids.Delivered: the closure that adds, and the loop over the slots. No conditions. -/
import Derived.Test.YtakmioomcnnfjaaBidsBase
import Derived.BigRegion
import Derived.Deep.DeepCutAuto
import Derived.Deep.CutBlock
namespace Go.Proofs.Ytakmioomcnnfjaa.Hand
open Go.RowKit Go.Shelf
set_option linter.unusedVariables false

/-- What is known of a record's rows in a world. -/
structure Rec (w : World) (A0 : Option Addr) (R : List Row) (A1 : Option Addr) (B : List Bool) (m : Nat) : Prop where
  row : ∀ i x, R[i]? = some x → ∃ ad, A0 = some ad ∧ w.cell? (ad.add i) = some (.slice x.a x.xs.length x.c) ∧ (ad.add i).block < w.heap.size
  num : ∀ x ∈ R, ∀ j v, x.xs[j]? = some v → ∃ ad, x.a = some ad ∧ w.cell? (ad.add j) = some (.int .i64 v) ∧ (ad.add j).block < w.heap.size
  mark : ∀ i b, B[i]? = some b → ∃ ad, A1 = some ad ∧ w.cell? (ad.add i) = some (.bool b) ∧ (ad.add i).block < w.heap.size
  len : ∀ x ∈ R, x.xs.length = m
  bnd : ∀ x ∈ R, ∀ v ∈ x.xs, 0 ≤ v ∧ v ≤ 1000
  m1 : 1 ≤ m
  m2 : m ≤ 24
  same : B.length = R.length
  few : R.length ≤ 60

theorem Rec.below {w w' : World} {A0 : Option Addr} {R : List Row} {A1 : Option Addr} {B : List Bool} {m : Nat} (h : Rec w A0 R A1 B m) (hb : Below w.heap.size w w') : Rec w' A0 R A1 B m where
  row i x hx := let ⟨ad, a, b, c⟩ := h.row i x hx; ⟨ad, a, (hb.cell c).trans b, Nat.lt_of_lt_of_le c hb.size⟩
  num x hx j v hv := let ⟨ad, a, b, c⟩ := h.num x hx j v hv; ⟨ad, a, (hb.cell c).trans b, Nat.lt_of_lt_of_le c hb.size⟩
  mark i x hx := let ⟨ad, a, b, c⟩ := h.mark i x hx; ⟨ad, a, (hb.cell c).trans b, Nat.lt_of_lt_of_le c hb.size⟩
  len := h.len
  bnd := h.bnd
  m1 := h.m1
  m2 := h.m2
  same := h.same
  few := h.few

theorem exists_sub {α : Type} {P : α → Prop} : ∀ (l : List α), (∀ x ∈ l, P x) → ∃ l' : List { x // P x }, l'.map (·.1) = l
  | [], _ => ⟨[], rfl⟩
  | a :: l, h => by
    obtain ⟨l', e⟩ := exists_sub l (fun x hx => h x (List.mem_cons_of_mem _ hx))
    exact ⟨⟨a, h a (List.mem_cons_self ..)⟩ :: l', by simp [e]⟩

theorem baseline_any (w : World) (A0 : Option Addr) (cD : Nat) (R : List Row) (A1 : Option Addr) (cB : Nat) (B : List Bool) (m day sl : Nat) (h : Rec w A0 R A1 B m) (hday : day ≤ R.length) (hsl : sl < m) (V : Int × Int) (hV : Hid (V = baseV (slotOf sl (down R B day 5)))) :
    Calls Try.prog 23 #[.slice A0 R.length cD, .slice A1 B.length cB, .int .i64 day, .int .i64 sl] w fun e w' => e = .returned (.tuple #[.int .i64 V.1, .int .i64 V.2]) ∧ Below w.heap.size w w' := by
  have hok : ∀ x ∈ R, RowOk w sl x := fun x hx => by
    have hl := h.len x hx
    have hs : sl < x.xs.length := by omega
    obtain ⟨ad, a, b, c⟩ := h.num x hx sl x.xs[sl] (List.getElem?_eq_getElem hs)
    exact ⟨hs, ad, a, c, by rw [List.getElem?_eq_getElem hs]; exact b⟩
  obtain ⟨R', rfl⟩ := exists_sub R hok
  have hb := baseline_in 3 (Nat.le_refl _) w A0 cD A1 cB sl R' B day
    (fun i x hx => h.row i x.1 (by rw [List.getElem?_map, hx]; rfl)) h.mark (by simpa using hday) (by have := h.same; simp at this hday; omega) (by have := h.same; have := h.few; omega) (by simpa using h.few)
    (fun x hx => by
      have hm : x.1 ∈ R'.map (·.1) := List.mem_map_of_mem hx
      have hs : sl < x.1.xs.length := by have := h.len x.1 hm; omega
      rw [List.getElem?_eq_getElem hs]
      exact h.bnd x.1 hm _ (List.getElem_mem _)) V (Lib.hid (by rw [hV.out, ← down_map]; rfl))
  rw [List.length_map]
  exact callsIn_wide.1 hb

/-- What the closure adds: the total behind it. -/
theorem add_any (w : World) (A0 : Option Addr) (cD : Nat) (R : List Row) (A1 : Option Addr) (cB : Nat) (B : List Bool) (m day sl bD bB bd bt : Nat) (h : Rec w A0 R A1 B m) (hday : day < R.length) (hsl : sl < m) (V : Int × Int) (hV : Hid (V = baseV (slotOf sl (down R B day 5))))
    (tot x : Int) (t0 : 0 ≤ tot) (t1 : tot ≤ 100000) (hx : Hid ((R[day]?.bind (·.xs[sl]?)) = some x))
    (hD : Boxed w bD 22 (.slice A0 R.length cD)) (hB : Boxed w bB 23 (.slice A1 B.length cB)) (hd : Boxed w bd 3 (.int .i64 day)) (ht : Boxed w bt 3 (.int .i64 tot)) :
    Calls Try.prog 25 #[.int .i64 sl, .pointer (some ⟨bD, 0, none⟩), .pointer (some ⟨bB, 0, none⟩), .pointer (some ⟨bd, 0, none⟩), .pointer (some ⟨bt, 0, none⟩)] w
      fun e w' => e = .returned (.int .i64 V.2) ∧ Boxed w' bt 3 (.int .i64 (tot + max 0 (V.1 - x))) ∧ w.grownBy w' (some bt) := by
  have hcD := hD.cell
  have hcB := hB.cell
  have hcd := hd.cell
  have hV0 : 0 ≤ V.1 ∧ V.1 ≤ 1000 := by
    rw [hV.out]
    unfold baseV
    split
    · omega
    · rename_i h5
      have hn : ∀ z ∈ slotOf sl (down R B day 5), 0 ≤ z ∧ z ≤ 1000 := by
        intro z hz
        unfold slotOf at hz
        obtain ⟨r, hr, rfl⟩ := List.mem_map.1 hz
        have hm := down_mem _ _ _ _ _ hr
        have hs : sl < r.xs.length := by have := h.len r hm; omega
        rw [List.getElem?_eq_getElem hs]
        exact h.bnd r hm _ (List.getElem_mem _)
      have hl : (slotOf sl (down R B day 5)).length ≤ 5 := by unfold slotOf; rw [List.length_map]; exact down_len _ _ _ _
      have : ∀ (l : List Int), (∀ z ∈ l, 0 ≤ z ∧ z ≤ 1000) → 0 ≤ l.sum ∧ l.sum ≤ 1000 * l.length := by
        intro l
        induction l with
        | nil => intro _; simp
        | cons a l ih =>
          intro h
          have h1 := ih (fun z hz => h z (List.mem_cons_of_mem _ hz))
          have h2 := h a (List.mem_cons_self ..)
          simp only [List.sum_cons, List.length_cons]
          omega
      have := this _ hn
      dsimp only
      omega
  have hxr : ∃ r, R[day]? = some r ∧ r.xs[sl]? = some x := by
    have := hx.out
    cases hr : R[day]? with
    | none => rw [hr] at this; cases this
    | some r => rw [hr] at this; exact ⟨r, rfl, this⟩
  obtain ⟨r, hr, hrx⟩ := hxr
  have hrm : r ∈ R := List.mem_of_getElem? hr
  have hxb := h.bnd r hrm x (List.mem_of_getElem? hrx)
  have hsl' : sl < r.xs.length := by have := h.len r hrm; omega
  obtain ⟨a0, rfl, hc0, hn0⟩ := h.row day r hr
  obtain ⟨a1, ha1, hc1, hn1⟩ := h.num r hrm sl x hrx
  have hbase := baseline_any w (some a0) cD R A1 cB B m day sl h (by omega) hsl V hV
  have HLT := Lib.hid (And.intro hD.lt (And.intro hd.lt ht.lt))
  have HBX := Lib.hid (And.intro hD (And.intro hd ht))
  obtain ⟨V1, V2⟩ := V
  dsimp only at hV0 hbase
  obtain ⟨v0, v1⟩ := hV0
  obtain ⟨x0, x1⟩ := hxb
  clear hV hx hr hrx hrm h hD hB hd ht
  go_enter Try.func25, Try.ntmps25
  go_wp2_with (go_at_call 23; refine hbase.mono ?_; rintro e w1 ⟨rfl, hb1⟩)
  obtain ⟨l0, l1, l2⟩ := HLT.out
  obtain ⟨q0, q1, q2⟩ := HBX.out
  have b0 : Boxed w1 bD 22 (.slice (some a0) R.length cD) := (hb1.block bD l0).trans q0
  have b1 : Boxed w1 bd 3 (.int .i64 day) := (hb1.block bd l1).trans q1
  have b2 : Boxed w1 bt 3 (.int .i64 tot) := (hb1.block bt l2).trans q2
  have e0 := b0.cell
  have e1 := b1.cell
  have e2 := b2.cell
  have f2 := b2.frozen
  have e3 := (hb1.cell hn0).trans hc0
  have e4 := (hb1.cell hn1).trans hc1
  have B2 := Lib.hid b2
  have HB1 := Lib.hid hb1
  clear hcD hcB hcd hc0 hc1 hn0 hn1 l0 l1 l2 q0 q1 q2 b0 b1 b2 HLT HBX hb1 hbase
  have fin : ∀ (z : Int), z = tot + max 0 (V1 - x) → Boxed ((w1.setCell ⟨bt, 0, none⟩ (.int .i64 z)).drew) bt 3 (.int .i64 (tot + max 0 (V1 - x))) ∧ w.grownBy ((w1.setCell ⟨bt, 0, none⟩ (.int .i64 z)).drew) (some bt) := by
    intro z hz
    subst hz
    have hb := HB1.out
    exact ⟨B2.out.set _, hb.os, hb.tape, hb.output, by have := hb.size; simpa [World.setCell] using this, fun i hi hne => (Below.heap_setCell w1 ⟨bt, 0, none⟩ _ i (fun e => hne (by rw [e]))).trans (hb.block i hi)⟩
  have FIN := Lib.hid fin
  clear fin
  go_wp2
  go_region
  all_goals go_wp2
  all_goals go_ret
  all_goals exact ⟨rfl, FIN.out _ (by omega)⟩

/-- What bids.Delivered returns of a valid record. -/
def delivV (L : List (List Int)) (B : List Bool) (m day : Nat) : Int × Int :=
  if (down L B day 5).length < 5 then (0, 4) else (((List.range m).map fun j => max 0 (((down L B day 5).map (·[j]?.getD 0)).sum / 5 - (L[day]?.getD [])[j]?.getD 0)).sum, 0)

theorem grown_trans' {a b c : World} {row : Option Nat} (h : a.grownBy b row) (k : b.grownBy c row) : a.grownBy c row :=
  ⟨k.os.trans h.os, k.tape.trans h.tape, k.output.trans h.output, Nat.le_trans h.size k.size, fun i hi hne => (k.block i (Nat.lt_of_lt_of_le hi h.size) hne).trans (h.block i hi hne)⟩

/-- A record is left alone by whatever turns one block of the call's own. -/
theorem Rec.grown {w w' : World} {A0 : Option Addr} {R : List Row} {A1 : Option Addr} {B : List Bool} {m g n₀ : Nat} (h : Rec w A0 R A1 B m) (hn : w.heap.size ≤ n₀) {W : World} (hb : Below w.heap.size w W) (hg : W.grownBy w' (some g)) (hgn : w.heap.size ≤ g) : Rec w' A0 R A1 B m :=
  h.below ⟨hg.os.trans hb.os, hg.tape.trans hb.tape, hg.output.trans hb.output, Nat.le_trans hb.size hg.size, fun i hi => (hg.block i (Nat.lt_of_lt_of_le hi hb.size) (by simp; omega)).trans (hb.block i hi)⟩

theorem in_true (n lo hi : Int) (w : World) (h1 : lo ≤ n) (h2 : n ≤ hi) : Calls Try.prog 22 #[.int .i64 n, .int .i64 lo, .int .i64 hi] w fun e w' => e = .returned (.bool true) ∧ w = w' := by
  have d1 : decide (lo ≤ n) = true := decide_eq_true h1
  have d2 : decide (n ≤ hi) = true := decide_eq_true h2
  clear h1 h2
  go_enter Try.func22, Try.ntmps22
  go_wp2
  go_ret
  exact ⟨rfl, rfl⟩

set_option maxHeartbeats 2000000 in
set_option maxRecDepth 100000 in
theorem delivered_any (w : World) (A0 : Option Addr) (cD : Nat) (R : List Row) (A1 : Option Addr) (cB : Nat) (B : List Bool) (m day : Nat) (h : Rec w A0 R A1 B m) (hday : day < R.length)
    (hrec : ∀ W, Below w.heap.size w W → Calls Try.prog 21 #[.slice A0 R.length cD, .slice A1 B.length cB] W fun e w' => e = .returned (.bool true) ∧ ∃ n, w' = W.drewN n)
    (V : Int × Int) (hV : Hid (V = delivV (R.map (·.xs)) B m day)) :
    Calls Try.prog 13 #[.slice A0 R.length cD, .slice A1 B.length cB, .int .i64 day] w fun e w' => e = .returned (.tuple #[.int .i64 V.1, .int .i64 V.2]) ∧ Below w.heap.size w w' := by
  have HREC := Lib.hid hrec
  have HR := Lib.hid h
  have hfew := h.few
  obtain ⟨r, hr⟩ : ∃ r, R[day]? = some r := ⟨_, List.getElem?_eq_getElem hday⟩
  have hrm : r ∈ R := List.mem_of_getElem? hr
  have hrl := h.len r hrm
  obtain ⟨a0, rfl, hc0, hn0⟩ := h.row day r hr
  rw [hrl] at hc0
  have HRR := Lib.hid (And.intro hr (And.intro hrm hrl))
  clear hrec h hr hrm hrl
  go_enter Try.func13, Try.ntmps13
  go_upto_region 5 with (first | (go_at_call 21; refine (HREC.out _ (by go_grown)).mono ?_; rintro e w1 ⟨rfl, nd, rfl⟩) | (go_at_call 22; refine (in_true _ _ _ _ (by omega) (by omega)).mono ?_; rintro e w' ⟨rfl, rfl⟩))
  have bD : Boxed (((((w.alloc (.cells #[.slice (some a0) R.length cD] 22)).alloc (.cells #[.slice A1 B.length cB] 23)).alloc (.cells #[.int .i64 day] 3)).drewN nd).alloc (.cells #[.int .i64 0] 3)) w.heap.size 22 (.slice (some a0) R.length cD) := Boxed.alloc (W := (((w.alloc (.cells #[.slice (some a0) R.length cD] 22)).alloc (.cells #[.slice A1 B.length cB] 23)).alloc (.cells #[.int .i64 day] 3)).drewN nd) (((Boxed.new w _ _).alloc _).alloc _) _
  have bB : Boxed (((((w.alloc (.cells #[.slice (some a0) R.length cD] 22)).alloc (.cells #[.slice A1 B.length cB] 23)).alloc (.cells #[.int .i64 day] 3)).drewN nd).alloc (.cells #[.int .i64 0] 3)) (w.heap.size + 1) 23 (.slice A1 B.length cB) := Boxed.alloc (W := (((w.alloc (.cells #[.slice (some a0) R.length cD] 22)).alloc (.cells #[.slice A1 B.length cB] 23)).alloc (.cells #[.int .i64 day] 3)).drewN nd) (by have q := Boxed.new (w.alloc (.cells #[.slice (some a0) R.length cD] 22)) 23 (.slice A1 B.length cB); rw [World.size_alloc] at q; exact q.alloc _) _
  have bd : Boxed (((((w.alloc (.cells #[.slice (some a0) R.length cD] 22)).alloc (.cells #[.slice A1 B.length cB] 23)).alloc (.cells #[.int .i64 day] 3)).drewN nd).alloc (.cells #[.int .i64 0] 3)) (w.heap.size + 1 + 1) 3 (.int .i64 day) := Boxed.alloc (W := (((w.alloc (.cells #[.slice (some a0) R.length cD] 22)).alloc (.cells #[.slice A1 B.length cB] 23)).alloc (.cells #[.int .i64 day] 3)).drewN nd) (by have q := Boxed.new ((w.alloc (.cells #[.slice (some a0) R.length cD] 22)).alloc (.cells #[.slice A1 B.length cB] 23)) 3 (.int .i64 day); rw [World.size_alloc, World.size_alloc] at q; exact q) _
  have bt : Boxed (((((w.alloc (.cells #[.slice (some a0) R.length cD] 22)).alloc (.cells #[.slice A1 B.length cB] 23)).alloc (.cells #[.int .i64 day] 3)).drewN nd).alloc (.cells #[.int .i64 0] 3)) (w.heap.size + 1 + 1 + 1) 3 (.int .i64 0) := by
    have q := Boxed.new ((((w.alloc (.cells #[.slice (some a0) R.length cD] 22)).alloc (.cells #[.slice A1 B.length cB] 23)).alloc (.cells #[.int .i64 day] 3)).drewN nd) 3 (.int .i64 0)
    have e : ((((w.alloc (.cells #[.slice (some a0) R.length cD] 22)).alloc (.cells #[.slice A1 B.length cB] 23)).alloc (.cells #[.int .i64 day] 3)).drewN nd).heap.size = w.heap.size + 1 + 1 + 1 := by simp
    rw [e] at q
    exact q
  have hBW : Below w.heap.size w (((((w.alloc (.cells #[.slice (some a0) R.length cD] 22)).alloc (.cells #[.slice A1 B.length cB] 23)).alloc (.cells #[.int .i64 day] 3)).drewN nd).alloc (.cells #[.int .i64 0] 3)) := Below.alloc (B := w.heap.size) (a := w) (w := (((w.alloc (.cells #[.slice (some a0) R.length cD] 22)).alloc (.cells #[.slice A1 B.length cB] 23)).alloc (.cells #[.int .i64 day] 3)).drewN nd)
    (have q : Below w.heap.size w (((w.alloc (.cells #[.slice (some a0) R.length cD] 22)).alloc (.cells #[.slice A1 B.length cB] 23)).alloc (.cells #[.int .i64 day] 3)) := (((Below.refl _ w).alloc (Nat.le_refl _) _).alloc (by simp) _).alloc (by simp; omega) _
     ⟨q.os, q.tape, q.output, q.size, q.block⟩) (by simp; omega) _
  obtain ⟨W5, hW5⟩ : ∃ W5, (((((w.alloc (.cells #[.slice (some a0) R.length cD] 22)).alloc (.cells #[.slice A1 B.length cB] 23)).alloc (.cells #[.int .i64 day] 3)).drewN nd).alloc (.cells #[.int .i64 0] 3)) = W5 := ⟨_, rfl⟩
  rw [hW5] at bD bB bd bt hBW ⊢
  clear hW5
  have hc0' := (hBW.cell hn0).trans hc0
  have cD' := bD.cell
  have cd' := bd.cell
  have ct' := bt.cell
  clear hc0 hn0
  have hsl : ∀ k, slotOf k (down R B day 5) = (down (R.map (·.xs)) B day 5).map (·[k]?.getD 0) := fun k => by rw [← down_map, List.map_map]; rfl
  have hdl : (down (R.map (·.xs)) B day 5).length = (down R B day 5).length := by rw [← down_map, List.length_map]
  have hLd : (R.map (·.xs))[day]?.getD [] = r.xs := by rw [List.getElem?_map, HRR.out.1]; rfl
  have HSL := Lib.hid hsl
  have hm1 := HR.out.m1
  have hm2 := HR.out.m2
  -- what the closure does at slot k
  have hadd : ∀ (k : Nat) (T : Int) (wr : World), k < m → 0 ≤ T → T ≤ 1000 * k → Below w.heap.size w wr → Boxed wr w.heap.size 22 (.slice (some a0) R.length cD) → Boxed wr (w.heap.size + 1) 23 (.slice A1 B.length cB) → Boxed wr (w.heap.size + 1 + 1) 3 (.int .i64 day) → Boxed wr (w.heap.size + 1 + 1 + 1) 3 (.int .i64 T) →
      Calls Try.prog 25 #[.int .i64 k, .pointer (some ⟨w.heap.size, 0, none⟩), .pointer (some ⟨w.heap.size + 1, 0, none⟩), .pointer (some ⟨w.heap.size + 1 + 1, 0, none⟩), .pointer (some ⟨w.heap.size + 1 + 1 + 1, 0, none⟩)] wr
        fun e w' => e = .returned (.int .i64 (baseV (slotOf k (down R B day 5))).2) ∧ Below w.heap.size w w' ∧ Boxed w' w.heap.size 22 (.slice (some a0) R.length cD) ∧ Boxed w' (w.heap.size + 1) 23 (.slice A1 B.length cB) ∧ Boxed w' (w.heap.size + 1 + 1) 3 (.int .i64 day) ∧
          Boxed w' (w.heap.size + 1 + 1 + 1) 3 (.int .i64 (T + max 0 ((baseV (slotOf k (down R B day 5))).1 - r.xs[k]?.getD 0))) := by
    intro k T wr hk T0 T1 hb q0 q1 q2 q3
    have hkr : k < r.xs.length := by rw [HRR.out.2.2]; exact hk
    have hx : (R[day]?.bind (·.xs[k]?)) = some (r.xs[k]?.getD 0) := by rw [HRR.out.1]; simp [List.getElem?_eq_getElem hkr]
    refine (add_any wr (some a0) cD R A1 cB B m day k w.heap.size (w.heap.size + 1) (w.heap.size + 1 + 1) (w.heap.size + 1 + 1 + 1) (HR.out.below hb) hday hk _ (Lib.hid rfl) T (r.xs[k]?.getD 0) T0 (by omega) (Lib.hid hx) q0 q1 q2 q3).mono ?_
    rintro e w' ⟨rfl, h1, h2⟩
    exact ⟨rfl, hb.grown h2 hb.size (fun k e => by cases e; omega), q0.kept h2 (by simp; omega), q1.kept h2 (by simp), q2.kept h2 (by simp), h1⟩
  have HADD := Lib.hid hadd
  clear hadd hsl
  by_cases h5 : (down R B day 5).length < 5
  · have hVe : Hid (V = (0, 4)) := Lib.hid (by rw [hV.out]; unfold delivV; rw [if_pos (by rw [hdl]; exact h5)])
    have hbv : ∀ k, baseV (slotOf k (down R B day 5)) = (0, 4) := fun k => by unfold baseV slotOf; rw [if_pos (by rw [List.length_map]; exact h5)]
    have HBV := Lib.hid hbv
    clear hbv hV hdl hLd h5
    go_wp2
    go_loopw [30] (fun i wr => i = .int .i64 0 ∧ wr = W5) (fun i _ => 0)
    case atStart => exact ⟨rfl, rfl⟩
    case round =>
      obtain ⟨rfl, rfl⟩ := hrel
      have hcall := HADD.out 0 0 wr (by omega) (by omega) (by omega) hBW bD bB bd bt
      rw [HBV.out 0] at hcall
      have hm1' : (0 : Int) < (m : Int) := by omega
      go_wp2_with (go_at_call 25; refine hcall.mono ?_; rintro e w' ⟨rfl, hb', _⟩)
      go_ret2
      rw [hVe.out]
      exact ⟨rfl, hb'⟩
  · have hbv : ∀ k, baseV (slotOf k (down R B day 5)) = (((down (R.map (·.xs)) B day 5).map (·[k]?.getD 0)).sum / 5, 0) := fun k => by
      rw [← HSL.out k]; unfold baseV; rw [if_neg (by unfold slotOf; rw [List.length_map]; exact h5)]
    obtain ⟨f, hf⟩ : ∃ f : Nat → Int, f = fun j => max 0 (((down (R.map (·.xs)) B day 5).map (·[j]?.getD 0)).sum / 5 - r.xs[j]?.getD 0) := ⟨_, rfl⟩
    have hVe : Hid (V = (((List.range m).map f).sum, 0)) := Lib.hid (by rw [hV.out]; unfold delivV; rw [if_neg (by rw [hdl]; exact h5), hLd, hf])
    have hstep : ∀ k, max 0 ((baseV (slotOf k (down R B day 5))).1 - r.xs[k]?.getD 0) = f k := fun k => by rw [hbv, hf]
    have hf0 : ∀ k, 0 ≤ f k := fun k => by rw [hf]; dsimp only; omega
    have hf1 : ∀ k, k < m → f k ≤ 1000 := by
      intro k hk
      rw [hf]
      dsimp only
      have hx : 0 ≤ r.xs[k]?.getD 0 := by
        have hkr : k < r.xs.length := by rw [HRR.out.2.2]; exact hk
        rw [List.getElem?_eq_getElem hkr]
        exact (HR.out.bnd r HRR.out.2.1 _ (List.getElem_mem _)).1
      have hs : ((down (R.map (·.xs)) B day 5).map (·[k]?.getD 0)).sum ≤ 5000 := by
        have hl : ((down (R.map (·.xs)) B day 5).map (·[k]?.getD 0)).length ≤ 5 := by rw [List.length_map]; exact down_len _ _ _ _
        have hn : ∀ z ∈ (down (R.map (·.xs)) B day 5).map (·[k]?.getD 0), z ≤ 1000 := by
          intro z hz
          obtain ⟨x, hx, rfl⟩ := List.mem_map.1 hz
          obtain ⟨y, hy, rfl⟩ := List.mem_map.1 (down_mem _ _ _ _ _ hx)
          have hs : k < y.xs.length := by have := HR.out.len y hy; omega
          rw [List.getElem?_eq_getElem hs]
          exact (HR.out.bnd y hy _ (List.getElem_mem _)).2
        have : ∀ (l : List Int), (∀ z ∈ l, z ≤ 1000) → l.sum ≤ 1000 * l.length := by
          intro l
          induction l with
          | nil => intro _; simp
          | cons a l ih =>
            intro h
            have h1 := ih (fun z hz => h z (List.mem_cons_of_mem _ hz))
            have h2 := h a (List.mem_cons_self ..)
            simp only [List.sum_cons, List.length_cons]
            omega
        have := this _ hn
        omega
      omega
    have HST := Lib.hid hstep
    have HF0 := Lib.hid hf0
    have HF1 := Lib.hid hf1
    have hb2 : ∀ k, (baseV (slotOf k (down R B day 5))).2 = 0 := fun k => by rw [hbv]
    have HB2 := Lib.hid hb2
    clear hbv hV hdl hLd h5 hf hstep hf0 hf1 hb2
    go_wp2
    go_loopw [30] (fun i wr => ∃ (k : Nat) (T : Int), k ≤ m ∧ i = .int .i64 k ∧ 0 ≤ T ∧ T ≤ 1000 * k ∧ Hid (T = ((List.range k).map f).sum) ∧ Below w.heap.size w wr ∧ Boxed wr w.heap.size 22 (.slice (some a0) R.length cD) ∧ Boxed wr (w.heap.size + 1) 23 (.slice A1 B.length cB) ∧ Boxed wr (w.heap.size + 1 + 1) 3 (.int .i64 day) ∧ Boxed wr (w.heap.size + 1 + 1 + 1) 3 (.int .i64 T))
      (fun i _ => m - (intOf i).toNat)
    case atStart => exact ⟨0, 0, by omega, rfl, by omega, by omega, Lib.hid (by simp), hBW, bD, bB, bd, bt⟩
    case round =>
      obtain ⟨k, T, hk, rfl, T0, T1, hT, hb, q0, q1, q2, q3⟩ := hrel
      by_cases hlt : k < m
      · have hcall := HADD.out k T wr hlt T0 T1 hb q0 q1 q2 q3
        rw [HST.out k, HB2.out k] at hcall
        have f0 := HF0.out k
        have f1 := HF1.out k hlt
        have hT' : Hid (T + f k = ((List.range (k + 1)).map f).sum) := Lib.hid (by rw [List.range_succ, List.map_append, List.sum_append, ← hT.out]; simp)
        generalize f k = z at *
        clear hT q0 q1 q2 q3 cD' cd' ct' hc0'
        go_wp2_with (go_at_call 25; refine hcall.mono ?_; rintro e w' ⟨rfl, hb', p0, p1, p2, p3⟩)
        go_roundw
        case rel => exact ⟨k + 1, T + z, by omega, by go_num, by omega, by omega, hT', hb', p0, p1, p2, p3⟩
        case measure => simp [intOf] <;> omega
      · have hkm : k = m := by omega
        subst hkm
        have hVT : Hid (V = (T, 0)) := Lib.hid (by rw [hVe.out, ← hT.out])
        have ct := q3.cell
        clear hT hVe cD' cd' ct' hc0'
        go_wp2
        go_ret2
        rw [hVT.out]
        exact ⟨rfl, hb⟩
end Go.Proofs.Ytakmioomcnnfjaa.Hand
