/- What the two functions of bids return, told as Lean functions. No conditions. -/
import Derived.Test.YtakmioomcnnfjaaBidsDeliv
namespace Go.Proofs.Ytakmioomcnnfjaa.Hand

/-- Is a record valid? -/
def recB (l0 : List (List Int)) (l1 : List Bool) : Bool :=
  decide (l0.length ≤ 60 ∧ l1.length = l0.length ∧ ∀ d ∈ l0, (1 ≤ d.length ∧ d.length ≤ 24 ∧ d.length = (l0.headD []).length) ∧ ∀ v ∈ d, 0 ≤ v ∧ v ≤ 1000)

/-- bids.baseline, of a valid record. -/
def baseF (l0 : List (List Int)) (l1 : List Bool) (a2 a3 : Int) : Option (Int × Int) :=
  if recB l0 l1 = true ∧ 0 ≤ a2 ∧ a2 ≤ l0.length ∧ 0 ≤ a3 ∧ a3 < (l0.headD []).length then some (baseV ((down l0 l1 a2.toNat 5).map (·[a3.toNat]?.getD 0))) else none

/-- bids.Delivered. -/
def delivF (l0 : List (List Int)) (l1 : List Bool) (a2 : Int) : Option (Int × Int) :=
  if recB l0 l1 = true ∧ 0 ≤ a2 ∧ a2 < l0.length then some (delivV l0 l1 (l0.headD []).length a2.toNat) else some (0, 1)

theorem list_of {α : Type} (Q : Nat → α → Prop) : ∀ n : Nat, (∀ i, i < n → ∃ s, Q i s) → ∃ l : List α, l.length = n ∧ ∀ i s, l[i]? = some s → Q i s
  | 0, _ => ⟨[], rfl, fun i s h => by simp at h⟩
  | n + 1, h => by
    obtain ⟨l, hl, hq⟩ := list_of Q n (fun i hi => h i (by omega))
    obtain ⟨s, hs⟩ := h n (by omega)
    refine ⟨l ++ [s], by simp [hl], fun i s' hi => ?_⟩
    rcases Nat.lt_or_ge i n with q | q
    · rw [List.getElem?_append_left (by omega)] at hi; exact hq i s' hi
    · rw [List.getElem?_append_right (by omega)] at hi
      have : i = n := by
        rcases Nat.lt_or_ge (i - l.length) 1 with q' | q'
        · omega
        · rw [List.getElem?_eq_none (by simpa using q')] at hi; cases hi
      subst this
      rw [hl] at hi; simp at hi; exact hi ▸ hs
end Go.Proofs.Ytakmioomcnnfjaa.Hand
