/- Between two times that a charger comes on there are at least six ticks, said of the printed functions. No conditions. -/
import Derived.Test.YtagphncpdhaklaaDoorPAllx11
import Derived.Test.YtagphncpdhaklaaDoorRampMore
namespace Go.Proofs.YtagphncpdhaklaaDoor.Pure
open Go.RowKit Go.Proofs.YtagphncpdhaklaaDoor.PAll Go.Proofs.YtagphncpdhaklaaDoorW.PrintWords Go.Proofs.YtagphncpdhaklaaDoorW.PrintLast Go.Proofs.YtagphncpdhaklaaDoorW.PrintMore Go.Proofs.YtagphncpdhaklaaDoor.Plain
open Go.Proofs.YtagphncpdhaklaaDoor.Hand (levelV nextV sinceV)

theorem rest_loop (c0 : ByteArray) (c1 c2 c3 c4 c5 c6 c7 : Int) (l : List Int) (hl : l.length ≤ 200) (d : Nat) : ∀ (k : Nat) (r0 r1 off on n i : Int),
    rB c2 c3 c4 c5 c6 r0 r1 = true → (l.length : Int) - i ≤ d → 2 * d < k → 0 ≤ i → n ≤ i → 0 ≤ n → i ≤ 200 → 0 ≤ on → on ≤ n → -100 ≤ off → off ≤ n →
    (r0 ≠ 0 → 7 * on ≤ n + 6) → (r0 = 0 → off = -100 ∧ on = 0 ∨ 7 * on ≤ off + 5 ∧ r1 ≤ n - off) →
    chargeparklaw24_RampRest.l0 k l true off on n i c0 c1 c2 c3 c4 c5 c6 c7 r0 r1 = some true := by
  induction d with
  | zero =>
    intro k r0 r1 off on n i h hd hk hi hn0 hn hi2 ho ho1 hf hf1 v1 v2
    obtain ⟨k, rfl⟩ : ∃ m, k = m + 1 := ⟨k - 1, by omega⟩
    simp only [chargeparklaw24_RampRest.l0]
    rw [if_neg (by omega), if_pos trivial, Int.tdiv_eq_ediv_of_nonneg hn, w_id (n / 7) (by omega) (by omega), w_id (n / 7 + 1) (by omega) (by omega)]
    congr 1
    exact decide_eq_true (by by_cases e0 : r0 = 0 <;> omega)
  | succ d ih =>
    intro k r0 r1 off on n i h hd hk hi hn0 hn hi2 ho ho1 hf hf1 v1 v2
    obtain ⟨k, rfl⟩ : ∃ m, k = m + 1 + 1 := ⟨k - 2, by omega⟩
    rw [chargeparklaw24_RampRest.l0]
    by_cases hc : i < (l.length : Int)
    · rw [if_pos hc, if_pos hi, ramp_next]
      simp only [Option.bind_some]
      obtain ⟨ok, g0, g1, g2, g3, g4⟩ := rB_true h
      rw [w_id (i + 1) (by omega) (by omega), w_id (n + 1) (by omega) (by omega)]
      rcases nxt_all h (rd l i) with e | ⟨s0, s1, e, hv, hs, hb⟩
      · rw [e]
        simp only []
        rw [if_neg (by decide)]
        exact ih (k + 1) r0 r1 off on n (i + 1) h (by omega) (by omega) (by omega) (by omega) hn (by omega) ho ho1 hf hf1 v1 v2
      · rw [e]
        simp only [if_true]
        have q : s1 ≤ r1 + 1 := by
          rcases hs with hs | hs
          · rw [hs.2]; unfold sinceV; split <;> omega
          · rw [hs.2]; omega
        obtain ⟨_, p0, p1, p2, p3, p4⟩ := rB_true hv
        by_cases e0 : r0 > 0
        · rw [if_pos e0]
          by_cases e1 : s0 = 0
          · rw [beq_iff_eq.2 e1]
            rw [chargeparklaw24_RampRest.j2, if_pos rfl]
            rw [if_neg (by omega), w_id (i + 1) (by omega) (by omega)]
            have hs1 : s1 = 0 := by rcases hs with hs | hs <;> omega
            exact ih k s0 s1 (n + 1) on (n + 1) (i + 1) hv (by omega) (by omega) (by omega) (by omega) (by omega) (by omega) ho (by omega) (by omega) (by omega) (by omega) (by omega)
          · rw [beq_eq_false_iff_ne.2 e1]
            rw [chargeparklaw24_RampRest.j2, if_neg (by simp)]
            rw [if_neg (by omega), w_id (i + 1) (by omega) (by omega)]
            exact ih k s0 s1 off on (n + 1) (i + 1) hv (by omega) (by omega) (by omega) (by omega) (by omega) (by omega) ho (by omega) (by omega) (by omega) (by omega) (by omega)
        · rw [if_neg e0]
          have e0' : r0 = 0 := by omega
          rw [chargeparklaw24_RampRest.j2, if_neg (by simp)]
          rw [if_pos e0', w_id (i + 1) (by omega) (by omega)]
          by_cases e1 : s0 > 0
          · have h5 := hb e0' (by omega)
            rw [if_pos e1, w_id (on + 1) (by omega) (by omega), w_id (n + 1 - off) (by omega) (by omega), decide_eq_true (show n + 1 - off ≥ 6 by omega)]
            rw [if_pos rfl]
            exact ih k s0 s1 off (on + 1) (n + 1) (i + 1) hv (by omega) (by omega) (by omega) (by omega) (by omega) (by omega) (by omega) (by omega) (by omega) (by omega) (by omega) (by omega)
          · rw [if_neg e1]
            exact ih k s0 s1 off on (n + 1) (i + 1) hv (by omega) (by omega) (by omega) (by omega) (by omega) (by omega) ho (by omega) (by omega) (by omega) (by omega) (by omega)
    · rw [if_neg hc, if_pos rfl, Int.tdiv_eq_ediv_of_nonneg hn, w_id (n / 7) (by omega) (by omega), w_id (n / 7 + 1) (by omega) (by omega)]
      congr 1
      exact decide_eq_true (by by_cases e0 : r0 = 0 <;> omega)

theorem RampRest (a0_0 : ByteArray) (a0_1 a0_2 a0_3 a0_4 a0_5 a0_6 a0_7 a1_0 a1_1 : Int) (l2 : List Int) (_ : (Lit.int .i64 a0_1).wf = true) (_ : (Lit.int .i64 a0_2).wf = true) (_ : (Lit.int .i64 a0_3).wf = true) (_ : (Lit.int .i64 a0_4).wf = true) (_ : (Lit.int .i64 a0_5).wf = true) (_ : (Lit.int .i64 a0_6).wf = true) (_ : (Lit.int .i64 a0_7).wf = true) (_ : (Lit.int .i64 a1_0).wf = true) (_ : (Lit.int .i64 a1_1).wf = true) (_ : l2.length * 8 ≤ 140737488351232) (_ : ∀ n ∈ l2, (Lit.int .i64 n).wf = true) :
    ∃ k, chargeparklaw24_RampRest.f k a0_0 a0_1 a0_2 a0_3 a0_4 a0_5 a0_6 a0_7 a1_0 a1_1 l2 = some true := by
  refine ⟨500, ?_⟩
  unfold chargeparklaw24_RampRest.f chargeparklaw24_head_c.f
  rw [ref_valid a0_0 a0_1 a0_2 a0_3 a0_4 a0_5 a0_6 a0_7 a1_0 a1_1 418]
  simp only [Option.bind_some]
  by_cases h : rB a0_2 a0_3 a0_4 a0_5 a0_6 a1_0 a1_1 = true
  · rw [if_pos h]
    by_cases d1 : (l2.length : Int) > 200
    · rw [decide_eq_true d1]; simp [chargeparklaw24_RampRest.j0]
    rw [decide_eq_false d1]
    simp only [chargeparklaw24_RampRest.j0]
    rw [if_neg (by simp)]
    exact rest_loop a0_0 a0_1 a0_2 a0_3 a0_4 a0_5 a0_6 a0_7 l2 (by omega) 200 _ a1_0 a1_1 (-100) 0 0 0 h (by omega) (by omega) (by omega) (by omega) (by omega) (by omega) (by omega) (by omega) (by omega) (by omega) (fun _ => by omega) (fun _ => Or.inl ⟨rfl, rfl⟩)
  · rw [if_neg h]; simp [chargeparklaw24_RampRest.j0]
end Go.Proofs.YtagphncpdhaklaaDoor.Pure
