/- Since counts the ticks from the last change between off and on, said of the printed functions. No conditions. -/
import Derived.Test.YtagphncpdhaklaaDoorPAllx14
import Derived.Test.YtagphncpdhaklaaDoorRampMore
namespace Go.Proofs.YtagphncpdhaklaaDoor.Pure
open Go.RowKit Go.Proofs.YtagphncpdhaklaaDoor.PAll Go.Proofs.YtagphncpdhaklaaDoorW.PrintWords Go.Proofs.YtagphncpdhaklaaDoorW.PrintLast Go.Proofs.YtagphncpdhaklaaDoorW.PrintMore Go.Proofs.YtagphncpdhaklaaDoor.Plain
open Go.Proofs.YtagphncpdhaklaaDoor.Hand (levelV nextV sinceV)

theorem rB_chB {c2 c3 c4 c5 c6 r0 r1 : Int} (h : rB c2 c3 c4 c5 c6 r0 r1 = true) : chB c2 c3 c4 c5 c6 = true := by
  unfold rB at h; rw [Bool.and_eq_true] at h; exact h.1

theorem since_loop (c0 : ByteArray) (c1 c2 c3 c4 c5 c6 c7 : Int) (l : List Int) (hl : l.length ≤ 200) (d : Nat) : ∀ (k : Nat) (r0 r1 n i : Int),
    rB c2 c3 c4 c5 c6 r0 r1 = true → (l.length : Int) - i ≤ d → d < k → 0 ≤ i → 0 ≤ n → n ≤ 1000000 + i → i ≤ 200 → r1 = mn n 1000000 →
    chargeparklaw24_RampSince.l0 k l true n i c0 c1 c2 c3 c4 c5 c6 c7 r0 r1 = some true := by
  induction d with
  | zero =>
    intro k r0 r1 n i h hd hk hi hn hn1 hi2 v
    obtain ⟨k, rfl⟩ : ∃ m, k = m + 1 := ⟨k - 1, by omega⟩
    simp only [chargeparklaw24_RampSince.l0]
    rw [if_neg (by omega), ref_charger, rB_chB h]
    rfl
  | succ d ih =>
    intro k r0 r1 n i h hd hk hi hn hn1 hi2 v
    obtain ⟨k, rfl⟩ : ∃ m, k = m + 1 := ⟨k - 1, by omega⟩
    simp only [chargeparklaw24_RampSince.l0]
    by_cases hc : i < (l.length : Int)
    · rw [if_pos hc, if_pos hi, ramp_next]
      simp only [Option.bind_some]
      rw [w_id (i + 1) (by omega) (by omega), w_id (n + 1) (by omega) (by omega)]
      rcases nxt_all h (rd l i) with e | ⟨s0, s1, e, hv, hs, hb⟩
      · rw [e]
        simp only []
        rw [if_neg (by decide)]
        exact ih k r0 r1 n (i + 1) h (by omega) (by omega) (by omega) hn (by omega) (by omega) v
      · rw [e]
        simp only [if_true]
        rcases hs with ⟨hs, hs1⟩ | ⟨hs, hs1⟩
        · have hx : ((s0 == 0) != (r0 == 0)) = false := by
            by_cases q : r0 = 0
            · rw [hs.2 q, q]; rfl
            · have : s0 ≠ 0 := fun q' => q (hs.1 q')
              rw [beq_eq_false_iff_ne.2 q, beq_eq_false_iff_ne.2 this]; rfl
          have hm : s1 = mn (n + 1) 1000000 := by
            rw [hs1, v]; unfold sinceV mn; repeat' split
            all_goals omega
          rw [if_neg (by rw [hx]; decide), beq_iff_eq.2 hm]
          exact ih k s0 s1 (n + 1) (i + 1) hv (by omega) (by omega) (by omega) (by omega) (by omega) (by omega) hm
        · have hx : ((s0 == 0) != (r0 == 0)) = true := by
            by_cases q : r0 = 0
            · have : s0 ≠ 0 := fun q' => hs ⟨fun _ => q, fun _ => q'⟩
              rw [q, beq_eq_false_iff_ne.2 this]; rfl
            · have : s0 = 0 := by
                by_cases q' : s0 = 0
                · exact q'
                · exact absurd ⟨fun h => absurd h q', fun h => absurd h q⟩ hs
              rw [beq_eq_false_iff_ne.2 q, this]; rfl
          have hm : s1 = mn 0 1000000 := by rw [hs1]; rfl
          rw [if_pos hx, beq_iff_eq.2 hm]
          exact ih k s0 s1 0 (i + 1) hv (by omega) (by omega) (by omega) (by omega) (by omega) (by omega) hm
    · rw [if_neg hc, ref_charger, rB_chB h]
      rfl

theorem RampSince (a0_0 : ByteArray) (a0_1 a0_2 a0_3 a0_4 a0_5 a0_6 a0_7 a1_0 a1_1 : Int) (l2 : List Int) (_ : (Lit.int .i64 a0_1).wf = true) (_ : (Lit.int .i64 a0_2).wf = true) (_ : (Lit.int .i64 a0_3).wf = true) (_ : (Lit.int .i64 a0_4).wf = true) (_ : (Lit.int .i64 a0_5).wf = true) (_ : (Lit.int .i64 a0_6).wf = true) (_ : (Lit.int .i64 a0_7).wf = true) (_ : (Lit.int .i64 a1_0).wf = true) (_ : (Lit.int .i64 a1_1).wf = true) (_ : l2.length * 8 ≤ 140737488351232) (_ : ∀ n ∈ l2, (Lit.int .i64 n).wf = true) :
    ∃ k, chargeparklaw24_RampSince.f k a0_0 a0_1 a0_2 a0_3 a0_4 a0_5 a0_6 a0_7 a1_0 a1_1 l2 = some true := by
  refine ⟨500, ?_⟩
  unfold chargeparklaw24_RampSince.f chargeparklaw24_head_c.f
  rw [ref_valid a0_0 a0_1 a0_2 a0_3 a0_4 a0_5 a0_6 a0_7 a1_0 a1_1 418]
  simp only [Option.bind_some]
  by_cases h : rB a0_2 a0_3 a0_4 a0_5 a0_6 a1_0 a1_1 = true
  · rw [if_pos h]
    by_cases d1 : (l2.length : Int) > 200
    · rw [decide_eq_true d1]; simp [chargeparklaw24_RampSince.j0]
    rw [decide_eq_false d1]
    simp only [chargeparklaw24_RampSince.j0]
    rw [if_neg (by simp)]
    obtain ⟨ok, g0, g1, g2, g3, g4⟩ := rB_true h
    exact since_loop a0_0 a0_1 a0_2 a0_3 a0_4 a0_5 a0_6 a0_7 l2 (by omega) 200 _ a1_0 a1_1 a1_1 0 h (by omega) (by omega) (by omega) g1 (by omega) (by omega) (by unfold mn; split <;> omega)
  · rw [if_neg h]; simp [chargeparklaw24_RampSince.j0]
end Go.Proofs.YtagphncpdhaklaaDoor.Pure
