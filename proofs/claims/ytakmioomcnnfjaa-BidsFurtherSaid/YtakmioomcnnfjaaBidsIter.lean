/- bids.counting: the iterator over the days that count, and its contract; bids.sum over a row. No conditions. -/
import Derived.RangeFuncNested
import Derived.RangeFuncBound
import Derived.RangeFuncCalls
import Derived.RangeFuncLeaves
import Derived.RangeFuncBox
import Derived.Shelf.Abstract
import Derived.Shelf.RegionOpen
import Derived.WalkKit
import Derived.OwnWalkIn
import Derived.TacticsInMore
import Derived.LoopNIn
import Derived.LoopIn
import Derived.Maps.AppendAt
import Derived.Lib.Hide
import Derived.Handy
import Derived.Test.YtakmioomcnnfjaaProg
namespace Go.Proofs.Ytakmioomcnnfjaa.Hand
open Go.RowKit Go.Shelf
set_option linter.unusedVariables false
attribute [local go_sem] Oper.semAt_some

/-- The rows that are produced from row i (excluded) downward, at most 'left': those without a mark. -/
def down {α : Type} (R : List α) (B : List Bool) : Nat → Nat → List α
  | 0, _ => []
  | i + 1, left => if left = 0 then [] else if B[i]?.getD false = true then down R B i left else (match R[i]? with | some x => x :: down R B i (left - 1) | none => [])

theorem down_len {α : Type} (R : List α) (B : List Bool) : ∀ i left, (down R B i left).length ≤ left
  | 0, _ => by simp [down]
  | i + 1, left => by
    unfold down
    split
    · simp
    · split
      · exact down_len R B i left
      · split
        · have := down_len R B i (left - 1); simp; omega
        · simp

theorem down_map {α β : Type} (f : α → β) (R : List α) (B : List Bool) : ∀ i left, (down R B i left).map f = down (R.map f) B i left
  | 0, _ => by simp [down]
  | i + 1, left => by
    unfold down
    rw [List.getElem?_map]
    split
    · rfl
    · split
      · exact down_map f R B i left
      · cases R[i]? with
        | none => rfl
        | some x => simp [down_map f R B i (left - 1)]

theorem down_mem {α : Type} (R : List α) (B : List Bool) : ∀ i left x, x ∈ down R B i left → x ∈ R
  | 0, _, x, h => by simp [down] at h
  | i + 1, left, x, h => by
    unfold down at h
    split at h
    · simp at h
    · split at h
      · exact down_mem R B i left x h
      · cases e : R[i]? with
        | none => rw [e] at h; simp at h
        | some y =>
          rw [e] at h
          rcases List.mem_cons.1 h with rfl | h
          · exact List.mem_of_getElem? e
          · exact down_mem R B i (left - 1) x h

/-- A row of whole numbers: where it lies, its numbers, its capacity. -/
structure Row where
  a : Option Addr
  xs : List Int
  c : Nat

/-- What a round keeps: all below n₀, and the two boxes. -/
def Kp2 (n₀ bb bD : Nat) (vb vD : Value) (A B : World) : Prop := Below n₀ A B ∧ (Boxed A bb 23 vb → Boxed B bb 23 vb) ∧ (Boxed A bD 22 vD → Boxed B bD 22 vD)
theorem Kp2.trans {n₀ bb bD : Nat} {vb vD : Value} {A B C : World} (h : Kp2 n₀ bb bD vb vD A B) (k : Kp2 n₀ bb bD vb vD B C) : Kp2 n₀ bb bD vb vD A C := ⟨h.1.trans k.1, fun q => k.2.1 (h.2.1 q), fun q => k.2.2 (h.2.2 q)⟩
theorem Kp2.back {n₀ bb bD N : Nat} {vb vD : Value} (hn : n₀ ≤ N) (hb : bb < N) (hD : bD < N) (W : World) (l : Nat) (o o' : Obj) (hl : N ≤ l) (h : W.heap[l]? = some o) (_ : o.isCells = false) (_ : o.isWalk = false) : Kp2 n₀ bb bD vb vD W (W.putObj l o') :=
  have hlt := (Array.getElem?_eq_some_iff.1 h).1
  ⟨(Below.refl n₀ W).grown (grownBy_putObj' W l o') (by omega) (fun k e => by cases e; omega), fun q => q.kept (grownBy_putObj' W l o') (by simp; omega), fun q => q.kept (grownBy_putObj' W l o') (by simp; omega)⟩

set_option maxRecDepth 100000 in
set_option maxHeartbeats 1000000 in
/-- The body of the iterator that bids.counting returns. -/
theorem counting1_in {Pr : Row → Prop} (n : Nat) (hn : 1 ≤ n) (l bd bb bD n₀ : Nat) (A0 : Option Addr) (cD : Nat) (A1 : Option Addr) (cB : Nat) (R : List { r : Row // Pr r }) (B : List Bool) (day : Nat) (J Jx : List { r : Row // Pr r } → World → Prop)
    (hY : ∀ pre x W, J pre W → pre.length < (down R B day 5).length → YieldAt Fence.wide (n - 1) Try.prog l #[.slice x.1.a x.1.xs.length x.1.c] W fun e W' =>
      (e = .returned (.bool true) ∧ J (pre ++ [x]) W' ∧ Kp2 n₀ bb bD (.slice A1 B.length cB) (.slice A0 R.length cD) W W') ∨ (e = .returned (.bool false) ∧ Jx (pre ++ [x]) W'))
    (W : World) (hd : W.cell? ⟨bd, 0, none⟩ = some (.int .i64 day)) (hb : Boxed W bb 23 (.slice A1 B.length cB)) (hD : Boxed W bD 22 (.slice A0 R.length cD))
    (hR : ∀ i x, R[i]? = some x → ∃ ad, A0 = some ad ∧ W.cell? (ad.add i) = some (.slice x.1.a x.1.xs.length x.1.c) ∧ (ad.add i).block < n₀)
    (hB : ∀ i b, B[i]? = some b → ∃ ad, A1 = some ad ∧ W.cell? (ad.add i) = some (.bool b) ∧ (ad.add i).block < n₀)
    (hday : day ≤ R.length) (hdB : day ≤ B.length) (hm : B.length ≤ 60) (hm2 : R.length ≤ 60) (h0 : J [] W) :
    CallsIn Fence.wide n Try.prog 28 #[.func (.yield l) #[] #[], .pointer (some ⟨bd, 0, none⟩), .pointer (some ⟨bb, 0, none⟩), .pointer (some ⟨bD, 0, none⟩)] W fun e W' => (∃ v, e = .returned v) ∧
      ((∃ ys, ys = down R B day 5 ∧ J ys W') ∨ (∃ pre, pre <+: down R B day 5 ∧ Jx pre W')) := by
  have HR := Lib.hid hR
  have HB := Lib.hid hB
  have HM := Lib.hid (And.intro hm hm2)
  clear hR hB
  refine callsIn_of_wp Try.func28 rfl trivial ?_ rfl
  simp only [Try.ntmps28, List.size_toArray, List.length_cons, List.length_nil, Nat.reduceAdd, Nat.reduceSub, Array.replicate_succ, Array.replicate_zero, List.push_toArray, List.append_toArray, List.nil_append, List.cons_append]
  gi_wp2
  gi_loopw [5, 6] (fun lf iv wr => ∃ (pre : List { r : Row // Pr r }) (j : Int) (k left : Nat), j + 1 = k ∧ k ≤ day ∧ left ≤ 5 ∧ lf = .int .i64 left ∧ iv = .int .i64 j ∧ Hid (pre ++ down R B k left = down R B day 5) ∧ J pre wr ∧ Boxed wr bb 23 (.slice A1 B.length cB) ∧ Boxed wr bD 22 (.slice A0 R.length cD) ∧ Below n₀ W wr)
    (fun _ iv _ => (intOf iv + 1).toNat)
  case atStart =>
    exact ⟨[], (day : Int) - 1, day, 5, by omega, Nat.le_refl _, Nat.le_refl _, rfl, rfl, rfl, h0, hb, hD, Below.refl _ _⟩
  case round =>
    obtain ⟨pre, j, k, left, hjk, hkd, hl5, rfl, rfl, hpre, hJ, hbb, hbD, hbel⟩ := hrel
    cases k with
    | zero =>
      have hp : Hid (pre = down R B day 5) := Lib.hid (by have := hpre.out; simpa [down] using this)
      have hneg : ¬ (0 : Int) ≤ j := by omega
      have hb0 : decide ((0 : Int) ≤ j) = false := decide_eq_false hneg
      clear hneg hjk hpre
      gi_wp2
      go_end0
      exact ⟨⟨_, rfl⟩, .inl ⟨pre, hp.out, hJ⟩⟩
    | succ m =>
      obtain rfl : j = (m : Int) := by omega
      by_cases hl : left = 0
      · subst hl
        have hp : Hid (pre = down R B day 5) := Lib.hid (by have := hpre.out; simpa [down] using this)
        clear hpre
        gi_wp2
        go_end0
        exact ⟨⟨_, rfl⟩, .inl ⟨pre, hp.out, hJ⟩⟩
      · have hmB : m < B.length := by omega
        have hmR : m < R.length := by omega
        have hcb := hbb.cell
        obtain ⟨a1, rfl, hc1, hn1⟩ := HB.out m B[m] (List.getElem?_eq_getElem hmB)
        have hc1' := (hbel.cell (p := a1.add m) hn1).trans hc1
        have hlp : 0 < left := by omega
        cases hbm : B[m] with
        | true =>
          rw [hbm] at hc1'
          have hp : Hid (pre ++ down R B m left = down R B day 5) := by
            have := hpre.out
            rw [← this, down, if_neg hl, if_pos (by rw [List.getElem?_eq_getElem hmB, hbm]; rfl)]; rfl
          clear hpre hc1 hbm
          gi_wp2
          go_roundw
          case rel => exact ⟨pre, (m : Int) - 1, m, left, by omega, by omega, hl5, rfl, rfl, hp, hJ, hbb, hbD, hbel⟩
          case measure => simp [intOf] <;> omega
        | false =>
          rw [hbm] at hc1'
          obtain ⟨a0, rfl, hc0, hn0⟩ := HR.out m R[m] (List.getElem?_eq_getElem hmR)
          have hc0' := (hbel.cell (p := a0.add m) hn0).trans hc0
          have hcD := hbD.cell
          have hp : Hid (pre ++ R[m] :: down R B m (left - 1) = down R B day 5) := by
            have := hpre.out
            rw [← this, down, if_neg hl, if_neg (by rw [List.getElem?_eq_getElem hmB, hbm]; simp), List.getElem?_eq_getElem hmR]; rfl
          obtain ⟨fn, tmps, assign, body, hy, hR⟩ := hY pre R[m] wr hJ (by rw [← hp.out]; simp)
          clear hpre hc1 hbm hc0
          gi_wp2
          refine hR.mono ?_
          rintro e W3 (⟨rfl, hJ3, hk3⟩ | ⟨rfl, hJx3⟩)
          · gi_wp2
            go_roundw
            case rel => exact ⟨pre ++ [R[m]], (m : Int) - 1, m, left - 1, by omega, by omega, by omega, by rw [show ((left - 1 : Nat) : Int) = (left : Int) - 1 by omega], rfl, Lib.hid (by have := hp.out; simpa using this), hJ3, hk3.2.1 hbb, hk3.2.2 hbD, hbel.trans hk3.1⟩
            case measure => simp [intOf] <;> omega
          · gi_wp2
            refine bodyPost_ret (results_none rfl _ _ _) rfl ?_
            exact ⟨⟨_, rfl⟩, .inr ⟨pre ++ [R[m]], ⟨down R B m (left - 1), by have := hp.out; simpa using this⟩, hJx3⟩⟩

set_option maxHeartbeats 1000000 in
/-- bids.counting: the three parameters are boxed; the function value captures the boxes. -/
theorem counting_in (n : Nat) (A0 : Option Addr) (n0 cD : Nat) (A1 : Option Addr) (n1 cB : Nat) (day : Int) (w : World) :
    CallsIn Fence.wide n Try.prog 26 #[.slice A0 n0 cD, .slice A1 n1 cB, .int .i64 day] w fun e w' =>
      e = .returned (.func (.func 28) #[] #[.pointer (some ⟨w.heap.size + 1 + 1, 0, none⟩), .pointer (some ⟨w.heap.size + 1, 0, none⟩), .pointer (some ⟨w.heap.size, 0, none⟩)]) ∧
      w' = ((w.alloc (.cells #[.slice A0 n0 cD] 22)).alloc (.cells #[.slice A1 n1 cB] 23)).alloc (.cells #[.int .i64 day] 3) := by
  refine callsIn_of_wp Try.func26 rfl trivial ?_ rfl
  simp only [Try.ntmps26, List.size_toArray, List.length_cons, List.length_nil, Nat.reduceAdd, Nat.reduceSub, Array.replicate_succ, Array.replicate_zero, List.push_toArray, List.append_toArray, List.nil_append, List.cons_append]
  gi_wp2
  go_ret
  exact ⟨rfl, rfl⟩

/-- Its value yields the rows that count. -/
theorem counting_stops {Pr : Row → Prop} (n : Nat) (hn : 1 ≤ n) (bd bb bD n₀ : Nat) (A0 : Option Addr) (cD : Nat) (A1 : Option Addr) (cB : Nat) (R : List { r : Row // Pr r }) (B : List Bool) (day : Nat)
    (w : World) (hd : Boxed w bd 3 (.int .i64 day)) (hb : Boxed w bb 23 (.slice A1 B.length cB)) (hD : Boxed w bD 22 (.slice A0 R.length cD)) (hn₀ : n₀ ≤ w.heap.size)
    (hR : ∀ i x, R[i]? = some x → ∃ ad, A0 = some ad ∧ w.cell? (ad.add i) = some (.slice x.1.a x.1.xs.length x.1.c) ∧ (ad.add i).block < n₀)
    (hB : ∀ i b, B[i]? = some b → ∃ ad, A1 = some ad ∧ w.cell? (ad.add i) = some (.bool b) ∧ (ad.add i).block < n₀)
    (hday : day ≤ R.length) (hdB : day ≤ B.length) (hm : B.length ≤ 60) (hm2 : R.length ≤ 60) :
    SeqStopsK Fence.wide n Try.prog 28 #[.pointer (some ⟨bd, 0, none⟩), .pointer (some ⟨bb, 0, none⟩), .pointer (some ⟨bD, 0, none⟩)] (fun x : { r : Row // Pr r } => #[Value.slice x.1.a x.1.xs.length x.1.c]) (Kp2 n₀ bb bD (.slice A1 B.length cB) (.slice A0 R.length cD))
      (fun ys => ys = down R B day 5) (fun pre => pre <+: down R B day 5) (down R B day 5).length w := fun l J Jx W hW _ _ hY h0 => by
  have mv : ∀ p : Addr, p.block < n₀ → W.cell? p = w.cell? p := fun p hp => hW.cell (p := p) (by omega)
  have bx : ∀ {b : Nat} {t : TypeId} {v : Value}, Boxed w b t v → Boxed W b t v := fun {b t v} h => (hW.block b h.lt).trans h
  exact counting1_in n hn l bd bb bD n₀ A0 cD A1 cB R B day J Jx hY W (Boxed.cell (bx hd)) (bx hb) (bx hD)
    (fun i x hx => let ⟨ad, ha, hc, hl⟩ := hR i x hx; ⟨ad, ha, (mv _ hl).trans hc, hl⟩) (fun i x hx => let ⟨ad, ha, hc, hl⟩ := hB i x hx; ⟨ad, ha, (mv _ hl).trans hc, hl⟩) hday hdB hm hm2 h0

set_option maxHeartbeats 1000000 in
/-- bids.sum over a row of at most five numbers up to 1000. -/
theorem sum_any (xs : List Int) (A : Option Addr) (c : Nat) (w : World) (hc : ∀ i x, xs[i]? = some x → ∃ ad, A = some ad ∧ w.cell? (ad.add i) = some (.int .i64 x)) (hl : xs.length ≤ 5) (hb : ∀ x ∈ xs, 0 ≤ x ∧ x ≤ 1000) :
    Calls Try.prog 27 #[.slice A xs.length c] w fun e w' => e = .returned (.int .i64 xs.sum) ∧ w' = w := by
  have HC := Lib.hid hc
  have hs : ∀ k : Nat, k ≤ xs.length → 0 ≤ (xs.take k).sum ∧ (xs.take k).sum ≤ 1000 * k := by
    intro k
    induction k with
    | zero => intro _; simp
    | succ k ih =>
      intro hk
      have h1 := ih (by omega)
      have h2 := hb xs[k] (List.getElem_mem _)
      rw [List.take_succ_eq_append_getElem (by omega), List.sum_append, List.sum_singleton]
      omega
  have HS := Lib.hid hs
  have HB := Lib.hid hb
  clear hc hs hb
  go_enter Try.func27, Try.ntmps27
  go_wp2
  go_loop [3, 8] (fun s i => ∃ (k : Nat) (z : Int), k ≤ xs.length ∧ i = .int .i64 k ∧ s = .int .i64 z ∧ Hid (z = (xs.take k).sum) ∧ 0 ≤ z ∧ z ≤ 1000 * k) (fun _ i => xs.length - (intOf i).toNat)
  case atStart => exact ⟨0, 0, Nat.zero_le _, rfl, rfl, by simp [Hid], by omega, by omega⟩
  case round =>
    obtain ⟨k, z, hk, rfl, rfl, hz, z0, z1⟩ := hrel
    by_cases hlt : k < xs.length
    · obtain ⟨ad, rfl, hcell⟩ := HC.out k xs[k] (List.getElem?_eq_getElem hlt)
      have hx := HB.out xs[k] (List.getElem_mem _)
      have hz' : Hid (z + xs[k] = (xs.take (k + 1)).sum) := Lib.hid (by rw [List.take_succ_eq_append_getElem (by omega), List.sum_append, List.sum_singleton, ← hz.out])
      generalize xs[k] = x at *
      obtain ⟨x0, x1⟩ := hx
      clear hz
      go_wp2
      go_round
      case rel => exact ⟨k + 1, z + x, by omega, by go_num, rfl, hz', by omega, by omega⟩
      case measure => simp [intOf] <;> omega
    · have hz' : Hid (z = xs.sum) := Lib.hid (by rw [hz.out, List.take_of_length_le (by omega)])
      clear hz
      go_wp2
      go_ret
      have e := hz'.out
      subst e
      exact ⟨rfl, rfl⟩
end Go.Proofs.Ytakmioomcnnfjaa.Hand
