/- After as many ticks as the charger has levels, the level below the wanted current is reached, and remains, said of the printed functions. No conditions. -/
import Derived.Test.YtagphncpdhaklaaDoorPAllx12
import Derived.Test.YtagphncpdhaklaaDoorRampIsLevel
namespace Go.Proofs.YtagphncpdhaklaaDoor.Pure
open Go.RowKit Go.Proofs.YtagphncpdhaklaaDoor.PAll Go.Proofs.YtagphncpdhaklaaDoorW.PrintWords Go.Proofs.YtagphncpdhaklaaDoorW.PrintLast Go.Proofs.YtagphncpdhaklaaDoorW.PrintMore Go.Proofs.YtagphncpdhaklaaDoor.Plain
open Go.Proofs.YtagphncpdhaklaaDoor.Hand (levelV nextV sinceV)

section
variable (c0 : ByteArray) (c1 c2 c3 c4 c5 c6 c7 : Int) (w : Int)

/-- The loop over the ticks. -/
theorem tick_loop (hw : 0 ≤ w) (hw' : w ≤ 80) (cnt : Int) (hc0 : 1 ≤ cnt) (hc1 : cnt ≤ 80) (hc : c4 < c3 + (cnt - 1) * c5 + c5) (d : Nat) : ∀ (k : Nat) (r0 r1 i : Int),
    rB c2 c3 c4 c5 c6 r0 r1 = true → cnt + 5 - i ≤ d → d < k → 0 ≤ i → i ≤ cnt + 5 →
    (i = 0 ∧ (r0 = 0 → 5 ≤ r1) ∨ 1 ≤ i ∧ (r0 = levelV c3 c4 c5 w ∨ r0 < levelV c3 c4 c5 w ∧ c3 + (i - 1) * c5 ≤ r0)) →
    chargeparklaw24_RampArrives.l1 k w true (levelV c3 c4 c5 w) cnt i c0 c1 c2 c3 c4 c5 c6 c7 r0 r1 = some true := by
  induction d with
  | zero =>
    intro k r0 r1 i h hd hk hi hi2 v
    obtain ⟨k, rfl⟩ : ∃ m, k = m + 1 := ⟨k - 1, by omega⟩
    rw [chargeparklaw24_RampArrives.l1, w_id (cnt + 5) (by omega) (by omega), if_neg (by omega)]
  | succ d ih =>
    intro k r0 r1 i h hd hk hi hi2 v
    obtain ⟨k, rfl⟩ : ∃ m, k = m + 1 := ⟨k - 1, by omega⟩
    rw [chargeparklaw24_RampArrives.l1, w_id (cnt + 5) (by omega) (by omega)]
    by_cases hlt : i < cnt + 5
    · obtain ⟨ok, g0, g1, g2, g3, g4⟩ := rB_true h
      have f := next_facts ok g0 g1 g2 g3 w
      rw [if_pos hlt, ramp_next, nxt_ok _ _ _ _ _ h hw hw', w_id (i + 1) (by omega) (by omega)]
      simp only [Option.bind_some, if_true]
      have o := ok
      obtain ⟨h1, h2, h3, h4, h5⟩ := o
      have hL := level_in ok w
      have hLr : levelV c3 c4 c5 w ≠ 0 → c3 ≤ levelV c3 c4 c5 w := fun hn => by
        by_cases q : w < c3
        · exact absurd (level_low w q) hn
        · exact (level_spec ok w (by omega)).2.1
      -- where the next ramp stands
      have hv : (nextV c3 c5 r0 r1 (levelV c3 c4 c5 w)).1 = levelV c3 c4 c5 w ∨ (nextV c3 c5 r0 r1 (levelV c3 c4 c5 w)).1 < levelV c3 c4 c5 w ∧ c3 + (i + 1 - 1) * c5 ≤ (nextV c3 c5 r0 r1 (levelV c3 c4 c5 w)).1 := by
        have hmul : (i + 1 - 1) * c5 = (i - 1) * c5 + c5 := by
          rw [show i + 1 - 1 = (i - 1) + 1 by omega, Int.add_mul, Int.one_mul]
        rw [hmul]
        have hz : i = 0 → (i - 1) * c5 = - c5 := fun hh => by rw [hh]; omega
        have hp_of : 1 ≤ i → 0 ≤ (i - 1) * c5 := fun q => Int.mul_nonneg (by omega) (by omega)
        have hr0 : r0 ≠ 0 → c3 ≤ r0 := fun hn => (level_row ok g3 hn).1
        generalize (i - 1) * c5 = p at *
        generalize levelV c3 c4 c5 w = L at *
        unfold nextV
        by_cases e0 : r0 = 0
        · rw [if_pos e0]
          by_cases e1 : L = 0
          · rw [if_pos e1]; exact Or.inl e1.symm
          · rw [if_neg e1]
            by_cases e2 : r1 < 5
            · exfalso; rcases v with ⟨v0, v1⟩ | ⟨v0, v1⟩
              · have := v1 e0; omega
              · have := hLr e1
                rcases v1 with v1 | v1
                · omega
                · have hp : 0 ≤ p := hp_of v0
                  omega
            · rw [if_neg e2]; simp only []
              have := hLr e1
              by_cases e3 : c3 = L
              · exact Or.inl e3
              · refine Or.inr ⟨by omega, ?_⟩
                rcases v with ⟨v0, v1⟩ | ⟨v0, v1⟩
                · have := hz v0; omega
                · exfalso; rcases v1 with v1 | v1
                  · omega
                  · have hp : 0 ≤ p := hp_of v0
                    omega
        · rw [if_neg e0]
          by_cases e1 : L = 0
          · rw [if_pos e1]; exact Or.inl e1.symm
          · rw [if_neg e1]; simp only []
            have := hr0 e0
            by_cases e2 : r0 + c5 < L
            · rw [if_pos e2]
              refine Or.inr ⟨e2, ?_⟩
              rcases v with ⟨v0, v1⟩ | ⟨v0, v1⟩
              · have := hz v0; omega
              · omega
            · rw [if_neg e2]; exact Or.inl rfl
      have hrb := rB_of (c2 := c2) (c6 := c6) h f.1
      have hle := (rB_true hrb)
      generalize (nextV c3 c5 r0 r1 (levelV c3 c4 c5 w)).1 = s0 at *
      generalize (nextV c3 c5 r0 r1 (levelV c3 c4 c5 w)).2 = s1 at *
      by_cases hx : i + 1 < cnt
      · rw [if_pos hx]
        exact ih k s0 s1 (i + 1) hrb (by omega) (by omega) (by omega) (by omega) (Or.inr ⟨by omega, hv⟩)
      · rw [if_neg hx]
        have he : s0 = levelV c3 c4 c5 w := by
          rcases hv with hv | ⟨hv1, hv2⟩
          · exact hv
          · exfalso
            have hm : (cnt - 1) * c5 ≤ (i + 1 - 1) * c5 := Int.mul_le_mul_of_nonneg_right (by omega) (by omega)
            have hp : 0 ≤ (i + 1 - 1) * c5 := Int.mul_nonneg (by omega) (by omega)
            have hrow := level_row ok hle.2.2.2.2.1 (by omega)
            have := level_of ok (levelV c3 c4 c5 w) s0 hrow.1 hrow.2 hle.2.2.2.2.2 (by omega) (by omega)
            rw [level_self ok w] at this
            omega
        rw [beq_iff_eq.2 he]
        exact ih k s0 s1 (i + 1) hrb (by omega) (by omega) (by omega) (by omega) (Or.inr ⟨by omega, hv⟩)
    · rw [if_neg hlt]

/-- The loop that counts the levels. -/
theorem count_loop (ok : Ok c3 c4 c5) (r0 r1 : Int) (d : Nat) : ∀ (k : Nat) (top cnt i : Int), c4 + 1 - i ≤ d → d < k → 1 ≤ i → i ≤ c4 + 1 →
    top = levelV c3 c4 c5 (mn w (i - 1)) → 0 ≤ cnt → cnt ≤ i - 1 → i ≤ c3 + cnt * c5 →
    (∀ m, k - d ≤ m + 1 → ∀ cnt', 0 ≤ cnt' → cnt' ≤ c4 → c4 + 1 ≤ c3 + cnt' * c5 → chargeparklaw24_RampArrives.l1 m w true (levelV c3 c4 c5 w) cnt' 0 c0 c1 c2 c3 c4 c5 c6 c7 r0 r1 = some true) →
    chargeparklaw24_RampArrives.l0 k w true top cnt i c0 c1 c2 c3 c4 c5 c6 c7 r0 r1 = some true := by
  have o := ok
  obtain ⟨h1, h2, h3, h4, h5⟩ := o
  have fin : ∀ (k d : Nat) (top cnt i : Int), d < k + 1 → i = c4 + 1 → top = levelV c3 c4 c5 (mn w (i - 1)) → 0 ≤ cnt → cnt ≤ i - 1 → i ≤ c3 + cnt * c5 →
      (∀ m, k + 1 - d ≤ m + 1 → ∀ cnt', 0 ≤ cnt' → cnt' ≤ c4 → c4 + 1 ≤ c3 + cnt' * c5 → chargeparklaw24_RampArrives.l1 m w true (levelV c3 c4 c5 w) cnt' 0 c0 c1 c2 c3 c4 c5 c6 c7 r0 r1 = some true) →
      chargeparklaw24_RampArrives.l1 k w true top cnt 0 c0 c1 c2 c3 c4 c5 c6 c7 r0 r1 = some true := by
    intro k d top cnt i hdk hi ht hc0 hc1 hc2 hm
    have : levelV c3 c4 c5 (mn w (i - 1)) = levelV c3 c4 c5 w := by
      by_cases q : w ≤ c4
      · rw [show mn w (i - 1) = w by unfold mn; split <;> omega]
      · rw [show mn w (i - 1) = c4 by unfold mn; split <;> omega]
        obtain ⟨s1, s2, s3, s4, s5⟩ := level_spec ok w (by omega)
        exact level_of ok c4 _ s2 s1 s3 s3 (by omega)
    rw [ht, this]
    exact hm k (by omega) cnt hc0 (by omega) (by omega)
  induction d with
  | zero =>
    intro k top cnt i hd hk hi hi2 ht hc0 hc1 hc2 hm
    obtain ⟨k, rfl⟩ : ∃ m, k = m + 1 := ⟨k - 1, by omega⟩
    rw [chargeparklaw24_RampArrives.l0, if_neg (by omega)]
    exact fin k 0 top cnt i hk (by omega) ht hc0 hc1 hc2 hm
  | succ d ih =>
    intro k top cnt i hd hk hi hi2 ht hc0 hc1 hc2 hm
    obtain ⟨k, rfl⟩ : ∃ m, k = m + 1 := ⟨k - 1, by omega⟩
    rw [chargeparklaw24_RampArrives.l0]
    by_cases hlt : i ≤ c4
    · rw [if_pos hlt, is_level c0 c1 c2 c6 c7 ok i (by omega) (by omega), w_id (i + 1) (by omega) (by omega)]
      simp only [Option.bind_some]
      have hmul : (cnt + 1) * c5 = cnt * c5 + c5 := by rw [Int.add_mul, Int.one_mul]
      have hm' : ∀ m, k - d ≤ m + 1 → ∀ cnt', 0 ≤ cnt' → cnt' ≤ c4 → c4 + 1 ≤ c3 + cnt' * c5 → chargeparklaw24_RampArrives.l1 m w true (levelV c3 c4 c5 w) cnt' 0 c0 c1 c2 c3 c4 c5 c6 c7 r0 r1 = some true := fun m q => hm m (by omega)
      unfold isL
      by_cases hv : levelV c3 c4 c5 i = i
      · rw [if_pos (decide_eq_true hv), w_id (cnt + 1) (by omega) (by omega)]
        by_cases hwi : i ≤ w
        · rw [if_pos hwi]
          refine ih k i (cnt + 1) (i + 1) (by omega) (by omega) (by omega) (by omega) ?_ (by omega) (by omega) (by omega) hm'
          rw [show mn w (i + 1 - 1) = i by unfold mn; split <;> omega]; exact hv.symm
        · rw [if_neg hwi]
          refine ih k top (cnt + 1) (i + 1) (by omega) (by omega) (by omega) (by omega) ?_ (by omega) (by omega) (by omega) hm'
          rw [ht, show mn w (i - 1) = w by unfold mn; split <;> omega, show mn w (i + 1 - 1) = w by unfold mn; split <;> omega]
      · rw [if_neg (by simpa using hv)]
        have hne : i ≠ c3 + cnt * c5 := fun he => by
          refine hv (level_of ok i i (by have := Int.mul_nonneg hc0 (show 0 ≤ c5 by omega); omega) ?_ hlt (Int.le_refl _) (Or.inr (by omega)))
          rw [show i - c3 = cnt * c5 by omega]; exact Int.mul_emod_left _ _
        refine ih k top cnt (i + 1) (by omega) (by omega) (by omega) (by omega) ?_ hc0 (by omega) (by omega) hm'
        by_cases hwi : i ≤ w
        · rw [ht, show mn w (i - 1) = i - 1 by unfold mn; split <;> omega, show mn w (i + 1 - 1) = i by unfold mn; split <;> omega, level_prev ok i hv]
        · rw [ht, show mn w (i - 1) = w by unfold mn; split <;> omega, show mn w (i + 1 - 1) = w by unfold mn; split <;> omega]
    · rw [if_neg hlt]
      exact fin k (d + 1) top cnt i hk (by omega) ht hc0 hc1 hc2 hm
end

theorem RampArrives (a0_0 : ByteArray) (a0_1 a0_2 a0_3 a0_4 a0_5 a0_6 a0_7 a1_0 a1_1 a2 : Int) (_ : (Lit.int .i64 a0_1).wf = true) (_ : (Lit.int .i64 a0_2).wf = true) (_ : (Lit.int .i64 a0_3).wf = true) (_ : (Lit.int .i64 a0_4).wf = true) (_ : (Lit.int .i64 a0_5).wf = true) (_ : (Lit.int .i64 a0_6).wf = true) (_ : (Lit.int .i64 a0_7).wf = true) (_ : (Lit.int .i64 a1_0).wf = true) (_ : (Lit.int .i64 a1_1).wf = true) (_ : (Lit.int .i64 a2).wf = true) :
    ∃ k, chargeparklaw24_RampArrives.f k a0_0 a0_1 a0_2 a0_3 a0_4 a0_5 a0_6 a0_7 a1_0 a1_1 a2 = some true := by
  refine ⟨500, ?_⟩
  unfold chargeparklaw24_RampArrives.f chargeparklaw24_head_c.f
  rw [ref_valid a0_0 a0_1 a0_2 a0_3 a0_4 a0_5 a0_6 a0_7 a1_0 a1_1 418]
  simp only [Option.bind_some]
  by_cases h : rB a0_2 a0_3 a0_4 a0_5 a0_6 a1_0 a1_1 = true
  · rw [if_pos h]
    by_cases d1 : a2 < 0
    · rw [if_pos d1]; simp [chargeparklaw24_RampArrives.j0]
    rw [if_neg d1]
    by_cases d2 : a2 > 80
    · rw [if_pos d2]; simp [chargeparklaw24_RampArrives.j0]
    rw [if_neg d2]
    obtain ⟨ok, g0, g1, g2, g3, g4⟩ := rB_true h
    have main : (a1_0 = 0 → 5 ≤ a1_1) → chargeparklaw24_RampArrives.l0 499 a2 true 0 0 1 a0_0 a0_1 a0_2 a0_3 a0_4 a0_5 a0_6 a0_7 a1_0 a1_1 = some true := fun h5 => by
      have o := ok
      obtain ⟨h1, h2, h3, h4, h5'⟩ := o
      refine count_loop a0_0 a0_1 a0_2 a0_3 a0_4 a0_5 a0_6 a0_7 a2 ok a1_0 a1_1 80 499 0 0 1 (by omega) (by omega) (by omega) (by omega) ?_ (by omega) (by omega) (by omega) ?_
      · exact (level_low _ (by unfold mn; split <;> omega)).symm
      · intro m hm cnt hc0 hc1 hc2
        have hcp : 1 ≤ cnt := by
          rcases Int.lt_or_le 0 cnt with hp | hp
          · omega
          · obtain rfl : cnt = 0 := by omega
            omega
        have hmul : cnt * a0_5 = (cnt - 1) * a0_5 + a0_5 := by rw [Int.sub_mul, Int.one_mul]; omega
        exact tick_loop a0_0 a0_1 a0_2 a0_3 a0_4 a0_5 a0_6 a0_7 a2 (by omega) (by omega) cnt hcp (by omega) (by omega) 85 m a1_0 a1_1 0 h (by omega) (by omega) (by omega) (by omega) (Or.inl ⟨rfl, h5⟩)
    by_cases e0 : a1_0 = 0
    · rw [if_pos e0]
      by_cases e1 : a1_1 < 5
      · rw [decide_eq_true e1]; simp [chargeparklaw24_RampArrives.j0]
      · rw [decide_eq_false e1, chargeparklaw24_RampArrives.j0, if_neg (by simp)]
        exact main (fun _ => by omega)
    · rw [if_neg e0, chargeparklaw24_RampArrives.j0, if_neg (by simp)]
      exact main (fun q => absurd q e0)
  · rw [if_neg h]; simp [chargeparklaw24_RampArrives.j0]
end Go.Proofs.YtagphncpdhaklaaDoor.Pure
