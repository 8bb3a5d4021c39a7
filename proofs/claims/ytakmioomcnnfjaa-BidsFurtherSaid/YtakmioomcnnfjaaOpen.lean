/- How the parameters of this seat's laws open: a struct of scalars, a slice of scalars, a slice of structs. No conditions. -/
import Derived.Test.YtakmioomcnnfjaaPAllx0
import Derived.Lib.SmallJoins
import Derived.Deep.Slices
import Derived.Deep.Fields
import Derived.Deep.Matrix
import Derived.Deep.Grids
import Derived.ChangeSame
import Derived.ProofKit
import Derived.OpenShut
import Derived.ShutString
import Derived.SizedLaws
import Derived.ChangeSlices
import Derived.Test.YtakmioomcnnfjaaWSized
namespace Go.Proofs.Ytakmioomcnnfjaa.Open
open Go.Joins Go.ChangeShapes Go.WideShapes Go.RowKit Go.Deep Go.Proofs.YtakmioomcnnfjaaW.PrintWords Go.Proofs.YtakmioomcnnfjaaW.PrintLast Go.Proofs.Ytakmioomcnnfjaa.PAll
open Go.ChangeMaps (open_string shut_string)
set_option linter.unusedVariables false
set_option linter.unusedSimpArgs false
variable {H : Type} {enc : TypeId × Value → H} {w : World} {base : Nat} {spare : Nat → Bool} {held : Bool}
theorem trod_str {P : Program} {fuel : Nat} {t : TypeId} {cs : List Value} {x : DataW H × List MemPlace} (ht : P.underlying t = some .string) (h : DataW.trod enc P w base spare held fuel t cs = some x) : ∃ s : ByteArray, cs = [.string s] := by
  cases fuel with
  | zero => simp [DataW.trod] at h
  | succ n =>
    unfold DataW.trod at h
    rw [ht] at h
    split at h <;> simp_all
theorem trod_boo {P : Program} {fuel : Nat} {t : TypeId} {cs : List Value} {x : DataW H × List MemPlace} (ht : P.underlying t = some .bool) (h : DataW.trod enc P w base spare held fuel t cs = some x) : ∃ b : Bool, cs = [.bool b] := by
  cases fuel with
  | zero => simp [DataW.trod] at h
  | succ n =>
    unfold DataW.trod at h
    rw [ht] at h
    split at h <;> simp_all
theorem list_of {α : Type} (Q : Nat → α → Prop) : ∀ n : Nat, (∀ i, i < n → ∃ s, Q i s) → ∃ l : List α, l.length = n ∧ ∀ i s, l[i]? = some s → Q i s
  | 0, _ => ⟨[], rfl, fun i s h => by simp at h⟩
  | n + 1, h => by
    obtain ⟨l, hl, hq⟩ := list_of Q n (fun i hi => h i (by omega))
    obtain ⟨s, hs⟩ := h n (by omega)
    refine ⟨l ++ [s], by simp [hl], fun i s' hi => ?_⟩
    rcases Nat.lt_or_ge i n with q | q
    · rw [List.getElem?_append_left (by omega)] at hi; exact hq i s' hi
    · rw [List.getElem?_append_right (by omega)] at hi
      have : i = n := by
        rcases Nat.lt_or_ge (i - l.length) 1 with q' | q'
        · omega
        · rw [List.getElem?_eq_none (by simpa using q')] at hi; cases hi
      subst this
      rw [hl] at hi; simp at hi; exact hi ▸ hs
theorem open_sl22 {r : Reach} {b0 : Nat} {v : Value} {d : DataW H} {p : List MemPlace} (hv : Value.okWide Try.prog w r b0 22 v) (h : DataW.Trod enc Try.prog w base (fun _ => true) held 22 v d p) :
    ∃ (a : Option Addr) (c : Nat) (l : List (List Int)), v = .slice a l.length c ∧ Kd.C (Kd.slice 3 (Kd.int .i64)) w a l.length l ∧ l.length ≤ c := by
  obtain ⟨a, len, cap, rfl⟩ := okWide_slice Try.underlying22 hv
  obtain ⟨fuel, hf⟩ := h
  rcases open_int_rows Try.underlying22 Try.underlying33 Try.underlying3 (by kernel_rfl) (by kernel_rfl) hf with ⟨hcs, _⟩ | ⟨x, ln, cp, A, L, C, Z, hcs, _, hl, hm, _, hx⟩
  · simp [Value.cells] at hcs
    obtain ⟨rfl, rfl, rfl⟩ := hcs
    exact ⟨none, 0, [], rfl, Kd.C_nil _ _, Nat.le_refl _⟩
  · simp [Value.cells] at hcs
    obtain ⟨rfl, rfl, rfl⟩ := hcs
    obtain ⟨q, hq, hp⟩ := list_of (fun i (s : List Int) => ∃ A c, w.cell? (x.add i) = some (.slice A s.length c) ∧ s.length ≤ c ∧ Kd.C (Kd.int .i64) w A s.length s) len (fun i hil => by
      obtain ⟨e1, r1, r2, r3, r4, r5, r6⟩ := hx i (by omega)
      have hz : (A i = none ∧ L i = 0 ∧ C i = 0 ∧ Z i = []) ∨ ∃ x, A i = some x ∧ L i ≤ C i ∧ C i ≤ maxLen ∧ (Z i).length = C i ∧ (∀ j, j < (Z i).length → w.cell? (x.add j) = some (.int .i64 ((Z i).getD j 0))) ∧ ∀ n ∈ Z i, (Lit.int .i64 n).wf = true := by
        cases hA : A i with
        | none =>
          have h0 := r5 hA
          exact .inl ⟨rfl, by omega, h0, List.length_eq_zero_iff.1 (by omega)⟩
        | some x' => exact .inr ⟨x', rfl, r1, r2, r3, fun j hj => (r6 x' hA).2 j (by omega), r4⟩
      obtain ⟨l, hl', hr, hm', hw, hc⟩ := ReadsInt.ofRowC hz
      rw [hl'] at e1
      exact ⟨l, A i, C i, e1, by omega, Kd.C_of_reads (d := (0 : Int)) (h1 := fun _ => rfl) hr⟩)
    subst hq
    refine ⟨some x, cap, q, rfl, ⟨rfl, Nat.le_trans hl (Nat.le_trans hm (by decide)), fun _ => ⟨x, rfl, fun j s hj => ?_⟩⟩, hl⟩
    obtain ⟨A', c', h1, h2, h3⟩ := hp j s hj
    refine ⟨[.slice A' s.length c'], rfl, ⟨A', c', rfl, h2, h3⟩, fun i u hu => ?_⟩
    match i, hu with
    | 0, hu => obtain rfl := Option.some.inj hu; change w.cell? (x.add (j * 1 + 0)) = _; rw [show j * 1 + 0 = j by omega]; exact h1
    | n + 1, hu => simp at hu
theorem open_sl23 {r : Reach} {b0 : Nat} {v : Value} {d : DataW H} {p : List MemPlace} (hv : Value.okWide Try.prog w r b0 23 v) (h : DataW.Trod enc Try.prog w base (fun _ => true) held 23 v d p) :
    ∃ (a : Option Addr) (c : Nat) (l : List Bool), v = .slice a l.length c ∧ Kd.C Kd.bool w a l.length l ∧ l.length ≤ c := by
  obtain ⟨a, len, cap, rfl⟩ := okWide_slice Try.underlying23 hv
  obtain ⟨fuel, hf⟩ := h
  rcases open_bools Try.underlying23 Try.underlying4 (by kernel_rfl) hf with ⟨hcs, _⟩ | ⟨x, ln, cp, B, hcs, _, hl, hm, _, hx⟩
  · simp [Value.cells] at hcs
    obtain ⟨rfl, rfl, rfl⟩ := hcs
    exact ⟨none, 0, [], rfl, Kd.C_nil _ _, Nat.le_refl _⟩
  · simp [Value.cells] at hcs
    obtain ⟨rfl, rfl, rfl⟩ := hcs
    obtain ⟨q, hq, hp⟩ := list_of (fun i (s : Bool) => w.cell? (x.add i) = some (.bool s)) len (fun i hil => ⟨B i, hx i (by omega)⟩)
    subst hq
    refine ⟨some x, cap, q, rfl, ⟨rfl, Nat.le_trans hl (Nat.le_trans hm (by decide)), fun _ => ⟨x, rfl, fun j s hj => ⟨[.bool s], rfl, rfl, fun i u hu => ?_⟩⟩⟩, hl⟩
    match i, hu with
    | 0, hu => obtain rfl := Option.some.inj hu; have h := hp j s hj; change w.cell? (x.add (j * 1 + 0)) = _; rw [show j * 1 + 0 = j by omega]; exact h
    | n + 1, hu => simp at hu
end Go.Proofs.Ytakmioomcnnfjaa.Open
