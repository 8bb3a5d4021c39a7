/- The mean of the bids of the days that count, said of the printed functions. No conditions. -/
import Derived.Test.YtakmioomcnnfjaaPAllx7
import Derived.Test.YtakmioomcnnfjaaBidsMore
namespace Go.Proofs.Ytakmioomcnnfjaa.Pure
open Go.RowKit Go.Proofs.Ytakmioomcnnfjaa.PAll Go.Proofs.YtakmioomcnnfjaaW.PrintWords Go.Proofs.YtakmioomcnnfjaaW.PrintLast Go.Proofs.YtakmioomcnnfjaaW.PrintMore Go.Proofs.Ytakmioomcnnfjaa.Plain
open Go.Proofs.Ytakmioomcnnfjaa.Hand (recB)

theorem cs_one (B : List Bool) (n c : Nat) : ((cs B n c).length : Int) = tot (fun i => if i ∈ cs B n c then 1 else 0) n := by
  rw [← cs_tot B (fun _ => 1) n c]
  have : ∀ l : List Nat, (l.map (fun _ => (1 : Int))).sum = l.length := fun l => by
    induction l with
    | nil => rfl
    | cons a l ih => rw [List.map_cons, List.sum_cons, ih, List.length_cons]; omega
  rw [this]

theorem mean_loop {l0 : List (List Int)} {l1 : List Bool} {m : Nat} (h : RecT l0 l1 m) (n s : Nat) (hn : n ≤ l0.length) (hs : s < m) : ∀ (q k i : Nat) (lo hi : Int), i + q = n → 0 ≤ lo ∧ lo ≤ 1000 → 0 ≤ hi ∧ hi ≤ 1000 →
    lo * tot (fun i => if i ∈ cs l1 n 5 then 1 else 0) i ≤ tot (fun i => if i ∈ cs l1 n 5 then at_ l0 i s else 0) i → tot (fun i => if i ∈ cs l1 n 5 then at_ l0 i s else 0) i ≤ hi * tot (fun i => if i ∈ cs l1 n 5 then 1 else 0) i →
    chargeparklaw30_BidsMean.l0 (k + 62 + q + 1) l0 l1 (n : Int) (s : Int) true (base5 l0 l1 n s).1 (base5 l0 l1 n s).2 (tot (fun i => if i ∈ cs l1 n 5 then 1 else 0) i) (tot (fun i => if i ∈ cs l1 n 5 then at_ l0 i s else 0) i) lo hi (i : Int) = some true
  | 0, k, i, lo, hi, hi0, hlo, hhi, g1, g2 => by
    obtain rfl : i = n := by omega
    have h5 := cs_len l1 i 5
    have hb := sm_bnd h i s
    rw [← cs_one, ← cs_tot l1 (fun j => at_ l0 j s)] at g1 g2
    rw [← cs_one, ← cs_tot l1 (fun j => at_ l0 j s)]
    change _ ≤ sm l0 l1 i s at g1
    change sm l0 l1 i s ≤ _ at g2
    change chargeparklaw30_BidsMean.l0 _ _ _ _ _ _ _ _ _ (sm l0 l1 i s) _ _ _ = _
    rw [show k + 62 + 0 + 1 = k + 62 + 1 by omega, chargeparklaw30_BidsMean.l0, if_neg (by omega)]
    by_cases c : (cs l1 i 5).length < 5
    · rw [if_pos (by omega), if_pos rfl, base5_few s c]; rfl
    · have e : (cs l1 i 5).length = 5 := by omega
      rw [e] at g1 g2
      rw [if_neg (by omega), if_pos rfl, base5_all s c]
      simp only []
      rw [if_pos trivial, if_pos (by omega), if_pos (by omega), w_id _ (by omega) (by omega), w_id _ (by omega) (by omega), if_pos (by omega), decide_eq_true (by omega)]
  | q + 1, k, i, lo, hi, hi0, hlo, hhi, g1, g2 => by
    have hc := tot_bnd (f := fun i => if i ∈ cs l1 n 5 then (1 : Int) else 0) (c := 1) i (fun j _ => by split <;> omega)
    have ht := tot_bnd (f := fun i => if i ∈ cs l1 n 5 then at_ l0 i s else 0) (c := 1000) i (fun j _ => by have := h.at j s; split <;> omega)
    have hv := h.at i s
    have hl := h.len (i := i) (by omega)
    have hf := h.few
    have hsame := h.same
    have ih := fun lo hi => mean_loop h n s hn hs q k (i + 1) lo hi (by omega)
    simp only [tot_succ] at ih
    rw [show k + 62 + (q + 1) + 1 = (k + 62 + q + 1) + 1 by omega, chargeparklaw30_BidsMean.l0, if_pos (by omega), show k + 62 + q + 1 = (k + q + 1) + 62 by omega, counts _ _ _ _ (by omega) (by omega), ← show k + 62 + q + 1 = (k + q + 1) + 62 by omega]
    simp only [Option.bind_some]
    by_cases c : i ∈ cs l1 n 5
    · simp only [if_pos c] at ih
      rw [decide_eq_true c, if_pos rfl, if_pos (by omega), if_pos (by omega), if_pos (by omega), if_pos (by omega), rd_at, w_nat i (by omega), w_id _ (by omega) (by omega), w_id _ (by omega) (by omega)]
      have m1 : mn lo (at_ l0 i s) ≤ lo := by unfold mn; split <;> omega
      have m2 : mn lo (at_ l0 i s) ≤ at_ l0 i s := by unfold mn; split <;> omega
      have m0 : 0 ≤ mn lo (at_ l0 i s) := by unfold mn; split <;> omega
      have x1 : hi ≤ mx hi (at_ l0 i s) := by unfold mx; split <;> omega
      have x2 : at_ l0 i s ≤ mx hi (at_ l0 i s) := by unfold mx; split <;> omega
      have x0 : mx hi (at_ l0 i s) ≤ 1000 := by unfold mx; split <;> omega
      have p1 := Int.mul_le_mul_of_nonneg_right m1 hc.1
      have p2 := Int.mul_le_mul_of_nonneg_right x1 hc.1
      exact ih _ _ ⟨m0, by omega⟩ ⟨by omega, x0⟩ (by rw [Int.mul_add, Int.mul_one]; omega) (by rw [Int.mul_add, Int.mul_one]; omega)
    · simp only [if_neg c, Int.add_zero] at ih
      rw [decide_eq_false c, if_neg (by decide), w_nat i (by omega)]
      exact ih _ _ hlo hhi g1 g2

theorem BidsMean (l0 : List (List Int)) (l1 : List Bool) (a2 a3 : Int) (y0 : l0.length ≤ 9223372036854775807) (_ : (Lit.int .i64 a2).wf = true) (_ : (Lit.int .i64 a3).wf = true) : ∃ k, chargeparklaw30_BidsMean.f k l0 l1 a2 a3 = some true := by
  refine ⟨3000 + l0.length + 2001, ?_⟩
  have no (b : Bool) (hb : b = true) : chargeparklaw30_BidsMean.j0 (3000 + l0.length + 2001) l0 l1 a2 a3 true b = some true := by
    rw [show 3000 + l0.length + 2001 = (5000 + l0.length) + 1 by omega, chargeparklaw30_BidsMean.j0, if_pos hb]
  obtain ⟨u, hu, hu1⟩ := usable (l0 := l0) (l1 := l1) 3000 y0
  unfold chargeparklaw30_BidsMean.f chargeparklaw30_head_c.f
  rw [hu]
  simp only [Option.bind_some]
  cases u with
  | false => rw [if_neg (by decide), no _ rfl]
  | true =>
    obtain ⟨h1, h2⟩ := hu1 rfl
    have h := recT h1
    rw [if_pos rfl]
    by_cases g2 : a2 < 0
    · rw [if_pos g2, no _ rfl]
    rw [if_neg g2]
    by_cases g3 : a2 > (l0.length : Int)
    · rw [if_pos g3, no _ rfl]
    rw [if_neg g3]
    by_cases g4 : a3 < 0
    · rw [if_pos g4, no _ rfl]
    rw [if_neg g4, if_pos (by omega), rdL0]
    by_cases g5 : a3 ≥ ((l0.headD []).length : Int)
    · rw [no _ (decide_eq_true g5)]
    rw [decide_eq_false g5, show 3000 + l0.length + 2001 = (l0.length + 3000 + 2000) + 1 by omega, chargeparklaw30_BidsMean.j0, if_neg (by decide), base_ok _ ⟨h1, h2, by omega, by omega, by omega, by omega⟩]
    simp only [Option.bind_some]
    obtain ⟨n, rfl⟩ := Int.eq_ofNat_of_zero_le (show 0 ≤ a2 by omega)
    obtain ⟨s, rfl⟩ := Int.eq_ofNat_of_zero_le (show 0 ≤ a3 by omega)
    rw [Int.toNat_natCast, Int.toNat_natCast]
    have hf := h.few
    have hL := mean_loop h n s (by omega) (by omega) n (l0.length + 3000 + 1937 - n) 0 1000 0 (by omega) (by omega) (by omega) (by simp [tot]) (by simp [tot])
    rw [show l0.length + 3000 + 1937 - n + 62 + n + 1 = l0.length + 3000 + 2000 by omega] at hL
    exact hL
end Go.Proofs.Ytakmioomcnnfjaa.Pure
