/- The next ramp is a level, not above the wanted current nor above one step more, said of the printed functions. No conditions. -/
import Derived.Test.YtagphncpdhaklaaDoorPAllx10
import Derived.Test.YtagphncpdhaklaaDoorRampIsLevel
namespace Go.Proofs.YtagphncpdhaklaaDoor.Pure
open Go.RowKit Go.Proofs.YtagphncpdhaklaaDoor.PAll Go.Proofs.YtagphncpdhaklaaDoorW.PrintWords Go.Proofs.YtagphncpdhaklaaDoorW.PrintLast Go.Proofs.YtagphncpdhaklaaDoorW.PrintMore Go.Proofs.YtagphncpdhaklaaDoor.Plain
open Go.Proofs.YtagphncpdhaklaaDoor.Hand (levelV nextV sinceV)

/-- One tick of a ramp that is on: the highest level that is wanted and within one step. -/
theorem next_top {c3 c4 c5 : Int} (ok : Ok c3 c4 c5) {r0 r1 : Int} (g3 : levelV c3 c4 c5 r0 = r0) (e0 : r0 ≠ 0) (w : Int) :
    (nextV c3 c5 r0 r1 (levelV c3 c4 c5 w)).1 = levelV c3 c4 c5 (mn w (r0 + c5)) := by
  have rr := level_row ok g3 e0
  have o := ok
  obtain ⟨h1, h2, h3, h4, h5⟩ := o
  have r1' := rr.1
  unfold nextV
  rw [if_neg e0]
  by_cases e1 : w < c3
  · rw [if_pos (level_low w e1)]
    exact (level_low _ (by unfold mn; split <;> omega)).symm
  obtain ⟨s1, s2, s3, s4, s5⟩ := level_spec ok w (by omega)
  rw [if_neg (by omega)]
  by_cases e2 : r0 + c5 < levelV c3 c4 c5 w
  · rw [if_pos e2]
    have : mn w (r0 + c5) = r0 + c5 := by unfold mn; split <;> omega
    rw [this, level_up ok g3 e0 (by omega)]
  · rw [if_neg e2]
    by_cases e3 : r0 + c5 < w
    · have : mn w (r0 + c5) = r0 + c5 := by unfold mn; split <;> omega
      rw [this]
      exact (level_of ok _ _ s2 s1 s3 (by omega) (by omega)).symm
    · have : mn w (r0 + c5) = w := by unfold mn; split <;> omega
      rw [this]

theorem RampNeverMore (a0_0 : ByteArray) (a0_1 a0_2 a0_3 a0_4 a0_5 a0_6 a0_7 a1_0 a1_1 a2 : Int) (_ : (Lit.int .i64 a0_1).wf = true) (_ : (Lit.int .i64 a0_2).wf = true) (_ : (Lit.int .i64 a0_3).wf = true) (_ : (Lit.int .i64 a0_4).wf = true) (_ : (Lit.int .i64 a0_5).wf = true) (_ : (Lit.int .i64 a0_6).wf = true) (_ : (Lit.int .i64 a0_7).wf = true) (_ : (Lit.int .i64 a1_0).wf = true) (_ : (Lit.int .i64 a1_1).wf = true) (_ : (Lit.int .i64 a2).wf = true) :
    ∃ k, chargeparklaw24_RampNeverMore.f k a0_0 a0_1 a0_2 a0_3 a0_4 a0_5 a0_6 a0_7 a1_0 a1_1 a2 = some true := by
  refine ⟨300, ?_⟩
  unfold chargeparklaw24_RampNeverMore.f chargeparklaw24_head_c.f
  rw [ref_valid a0_0 a0_1 a0_2 a0_3 a0_4 a0_5 a0_6 a0_7 a1_0 a1_1 218]
  simp only [Option.bind_some]
  by_cases h : rB a0_2 a0_3 a0_4 a0_5 a0_6 a1_0 a1_1 = true
  · rw [if_pos h]
    obtain ⟨ok, g0, g1, g2, g3, g4⟩ := rB_true h
    have o := ok
    obtain ⟨h1, h2, h3, h4, h5⟩ := o
    by_cases d1 : a2 < 0
    · rw [if_pos d1]; simp [chargeparklaw24_RampNeverMore.j0]
    rw [if_neg d1]
    by_cases d2 : a2 > 80
    · rw [decide_eq_true d2]; simp [chargeparklaw24_RampNeverMore.j0]
    rw [decide_eq_false d2]
    simp only [chargeparklaw24_RampNeverMore.j0]
    rw [if_neg (by simp), ramp_next, nxt_ok _ _ _ _ _ h (by omega) (by omega), w_id (a1_0 + a0_5) (by omega) (by omega)]
    simp only [Option.bind_some]
    -- the loop over the levels, for any limit
    have loop : ∀ (lim : Int), 1 ≤ lim → lim ≤ 160 → ∀ (d k : Nat) (i : Int), mn a2 lim + 1 - i ≤ d → d < k → 0 ≤ i → i ≤ mn a2 lim + 1 →
        chargeparklaw24_RampNeverMore.l0 k a2 true 0 lim (levelV a0_3 a0_4 a0_5 (i - 1)) i a0_0 a0_1 a0_2 a0_3 a0_4 a0_5 a0_6 a0_7 a1_0 a1_1 (nextV a0_3 a0_5 a1_0 a1_1 (levelV a0_3 a0_4 a0_5 a2)).1 (nextV a0_3 a0_5 a1_0 a1_1 (levelV a0_3 a0_4 a0_5 a2)).2
        = chargeparklaw24_RampNeverMore.l0 1 a2 true 0 lim (levelV a0_3 a0_4 a0_5 (mn a2 lim)) (mn a2 lim + 1) a0_0 a0_1 a0_2 a0_3 a0_4 a0_5 a0_6 a0_7 a1_0 a1_1 (nextV a0_3 a0_5 a1_0 a1_1 (levelV a0_3 a0_4 a0_5 a2)).1 (nextV a0_3 a0_5 a1_0 a1_1 (levelV a0_3 a0_4 a0_5 a2)).2 := by
      intro lim hl0 hl1 d
      have hm : 0 ≤ mn a2 lim ∧ mn a2 lim ≤ 80 := by unfold mn; split <;> omega
      induction d with
      | zero =>
        intro k i hd hk hi hj
        obtain ⟨k, rfl⟩ : ∃ m, k = m + 1 := ⟨k - 1, by omega⟩
        obtain rfl : i = mn a2 lim + 1 := by omega
        rw [show mn a2 lim + 1 - 1 = mn a2 lim by omega]
        simp only [chargeparklaw24_RampNeverMore.l0, if_neg (show ¬ (mn a2 lim + 1 ≤ mn a2 lim) by omega)]
      | succ d ih =>
        intro k i hd hk hi hj
        obtain ⟨k, rfl⟩ : ∃ m, k = m + 1 := ⟨k - 1, by omega⟩
        by_cases hc : i ≤ mn a2 lim
        · conv => lhs; unfold chargeparklaw24_RampNeverMore.l0
          rw [if_pos hc, is_level a0_0 a0_1 a0_2 a0_6 a0_7 ok i hi (by omega), w_id (i + 1) (by omega) (by omega)]
          simp only [Option.bind_some]
          have ih' := ih k (i + 1) (by omega) (by omega) (by omega) (by omega)
          rw [show i + 1 - 1 = i by omega] at ih'
          unfold isL
          by_cases hv : levelV a0_3 a0_4 a0_5 i = i
          · rw [if_pos (decide_eq_true hv), ← ih', hv]
          · rw [if_neg (by simpa using hv), ← level_prev ok i hv, ih']
        · obtain rfl : i = mn a2 lim + 1 := by omega
          rw [show mn a2 lim + 1 - 1 = mn a2 lim by omega]
          simp only [chargeparklaw24_RampNeverMore.l0, if_neg (show ¬ (mn a2 lim + 1 ≤ mn a2 lim) by omega)]
    have hst : levelV a0_3 a0_4 a0_5 (0 - 1) = 0 := level_low _ (by omega)
    have f := next_facts ok g0 g1 g2 g3 a2
    have hL := level_in ok a2
    by_cases e0 : a1_0 = 0
    · rw [if_pos e0]
      simp only [chargeparklaw24_RampNeverMore.j1]
      have l := loop a0_3 h1 (by omega) 82 298 0 (by unfold mn; split <;> omega) (by omega) (by omega) (by unfold mn; split <;> omega)
      rw [hst] at l
      rw [l]
      simp only [chargeparklaw24_RampNeverMore.l0]
      rw [if_neg (by omega)]
      have hn : (nextV a0_3 a0_5 a1_0 a1_1 (levelV a0_3 a0_4 a0_5 a2)).1 = if 5 ≤ a1_1 then levelV a0_3 a0_4 a0_5 (mn a2 a0_3) else 0 := by
        unfold nextV
        rw [if_pos e0]
        by_cases q : a2 < a0_3
        · have qq : mn a2 a0_3 = a2 := by unfold mn; split <;> omega
          rw [if_pos (level_low a2 q), qq, level_low a2 q]; simp
        · have qq : mn a2 a0_3 = a0_3 := by unfold mn; split <;> omega
          have := level_spec ok a2 (by omega)
          rw [if_neg (by omega), qq, level_least ok]
          by_cases q5 : a1_1 < 5
          · rw [if_pos q5, if_neg (by omega)]
          · rw [if_neg q5, if_pos (by omega)]
      have hg := f.1
      have hlo : levelV a0_3 a0_4 a0_5 (mn a2 a0_3) ≤ mn a2 a0_3 := (level_in ok _).2.1 (by unfold mn; split <;> omega)
      have hmn : mn a2 a0_3 ≤ a2 ∧ mn a2 a0_3 ≤ a0_3 := by unfold mn; split <;> omega
      generalize (nextV a0_3 a0_5 a1_0 a1_1 (levelV a0_3 a0_4 a0_5 a2)).1 = n at *
      have hn4 : n ≤ 200 := by rw [hn]; split <;> omega
      rw [is_level a0_0 a0_1 a0_2 a0_6 a0_7 ok n hg.1 hn4]
      unfold isL
      simp only [Option.bind_some, decide_eq_true hg.2.2.2, if_pos e0, if_true]
      by_cases q5 : a1_1 < 5
      · rw [if_neg (by omega)] at hn
        subst hn
        rw [if_pos q5, if_pos (by omega), if_pos (by omega)]
        simp only [if_neg (show ¬ a1_1 ≥ 5 by omega)]
        simp
      · rw [if_pos (by omega)] at hn
        rw [if_neg q5, if_pos (by omega), if_pos (by omega), if_pos hn, if_pos (by omega)]
    · rw [if_neg e0]
      simp only [chargeparklaw24_RampNeverMore.j1]
      have l := loop (a1_0 + a0_5) (by omega) (by omega) 82 298 0 (by unfold mn; split <;> omega) (by omega) (by omega) (by unfold mn; split <;> omega)
      rw [hst] at l
      rw [l]
      simp only [chargeparklaw24_RampNeverMore.l0]
      rw [if_neg (by omega)]
      have hn := next_top ok (r1 := a1_1) g3 e0 a2
      have hg := f.1
      have hlo : levelV a0_3 a0_4 a0_5 (mn a2 (a1_0 + a0_5)) ≤ mn a2 (a1_0 + a0_5) := (level_in ok _).2.1 (by unfold mn; split <;> omega)
      have hmn : mn a2 (a1_0 + a0_5) ≤ a2 ∧ mn a2 (a1_0 + a0_5) ≤ a1_0 + a0_5 := by unfold mn; split <;> omega
      generalize (nextV a0_3 a0_5 a1_0 a1_1 (levelV a0_3 a0_4 a0_5 a2)).1 = n at *
      rw [is_level a0_0 a0_1 a0_2 a0_6 a0_7 ok n hg.1 (by omega)]
      unfold isL
      simp only [Option.bind_some, decide_eq_true hg.2.2.2, if_neg e0, if_true]
      rw [if_pos (by omega), if_pos (by omega), if_pos hn]
  · rw [if_neg h]; simp [chargeparklaw24_RampNeverMore.j0]
end Go.Proofs.YtagphncpdhaklaaDoor.Pure
