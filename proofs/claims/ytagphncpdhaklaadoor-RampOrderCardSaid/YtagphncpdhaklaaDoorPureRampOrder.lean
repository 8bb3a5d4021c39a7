/- If more is wanted, no less is given in the next tick; and a little more than the current of before does not change it, said of the printed functions. No conditions. -/
import Derived.Test.YtagphncpdhaklaaDoorPAllx13
import Derived.Test.YtagphncpdhaklaaDoorRampPlain
namespace Go.Proofs.YtagphncpdhaklaaDoor.Pure
open Go.RowKit Go.Proofs.YtagphncpdhaklaaDoor.PAll Go.Proofs.YtagphncpdhaklaaDoorW.PrintWords Go.Proofs.YtagphncpdhaklaaDoorW.PrintLast Go.Proofs.YtagphncpdhaklaaDoorW.PrintMore Go.Proofs.YtagphncpdhaklaaDoor.Plain
open Go.Proofs.YtagphncpdhaklaaDoor.Hand (levelV nextV sinceV)

theorem level_mono {c3 c4 c5 : Int} (ok : Ok c3 c4 c5) (a b : Int) (h : a ≤ b) : levelV c3 c4 c5 a ≤ levelV c3 c4 c5 b := by
  by_cases h1 : a < c3
  · rw [level_low a h1]; exact (level_in ok b).1
  · obtain ⟨s1, s2, s3, s4, s5⟩ := level_spec ok a (by omega)
    obtain ⟨t1, t2, t3, t4, t5⟩ := level_spec ok b (by omega)
    generalize levelV c3 c4 c5 a = x at *
    generalize levelV c3 c4 c5 b = y at *
    by_cases hxy : x ≤ y
    · exact hxy
    · exfalso
      have h4 := ok.h4
      -- x and y lie on one row, so y + step is not above x
      obtain ⟨p, hp⟩ := Int.dvd_of_emod_eq_zero s1
      obtain ⟨q, hq⟩ := Int.dvd_of_emod_eq_zero t1
      have hpq : q < p := by
        refine Int.lt_of_not_ge fun hge => ?_
        have := Int.mul_le_mul_of_nonneg_left hge (show 0 ≤ c5 by omega)
        omega
      have := Int.mul_le_mul_of_nonneg_left (show q + 1 ≤ p by omega) (show 0 ≤ c5 by omega)
      rw [Int.mul_add, Int.mul_one] at this
      omega

theorem RampOrder (a0_0 : ByteArray) (a0_1 a0_2 a0_3 a0_4 a0_5 a0_6 a0_7 a1_0 a1_1 a2 a3 : Int) (_ : (Lit.int .i64 a0_1).wf = true) (_ : (Lit.int .i64 a0_2).wf = true) (_ : (Lit.int .i64 a0_3).wf = true) (_ : (Lit.int .i64 a0_4).wf = true) (_ : (Lit.int .i64 a0_5).wf = true) (_ : (Lit.int .i64 a0_6).wf = true) (_ : (Lit.int .i64 a0_7).wf = true) (_ : (Lit.int .i64 a1_0).wf = true) (_ : (Lit.int .i64 a1_1).wf = true) (_ : (Lit.int .i64 a2).wf = true) (_ : (Lit.int .i64 a3).wf = true) :
    ∃ k, chargeparklaw24_RampOrder.f k a0_0 a0_1 a0_2 a0_3 a0_4 a0_5 a0_6 a0_7 a1_0 a1_1 a2 a3 = some true := by
  refine ⟨90, ?_⟩
  unfold chargeparklaw24_RampOrder.f chargeparklaw24_head_c.f
  rw [ref_valid a0_0 a0_1 a0_2 a0_3 a0_4 a0_5 a0_6 a0_7 a1_0 a1_1 8]
  simp only [Option.bind_some]
  by_cases h : rB a0_2 a0_3 a0_4 a0_5 a0_6 a1_0 a1_1 = true
  · rw [if_pos h]
    obtain ⟨ok, g0, g1, g2, g3, g4⟩ := rB_true h
    have o := ok
    obtain ⟨h1, h2, h3, h4, h5⟩ := o
    by_cases d1 : a2 < 0
    · rw [if_pos d1]; simp [chargeparklaw24_RampOrder.j0]
    rw [if_neg d1]
    by_cases d2 : a3 < 0
    · rw [if_pos d2]; simp [chargeparklaw24_RampOrder.j0]
    rw [if_neg d2]
    by_cases d3 : a2 > 80
    · rw [if_pos d3]; simp [chargeparklaw24_RampOrder.j0]
    rw [if_neg d3, w_id (80 - a2) (by omega) (by omega)]
    by_cases d4 : a3 > 80 - a2
    · rw [decide_eq_true d4]; simp [chargeparklaw24_RampOrder.j0]
    rw [decide_eq_false d4]
    simp only [chargeparklaw24_RampOrder.j0]
    have m0 := Int.emod_nonneg a3 (show a0_5 ≠ 0 by omega)
    have m1 := Int.emod_lt_of_pos a3 (show 0 < a0_5 by omega)
    rw [if_neg (by simp), w_id (a2 + a3) (by omega) (by omega), ramp_next _ _ _ _ _ _ _ _ a1_0 a1_1 a2, ramp_next _ _ _ _ _ _ _ _ a1_0 a1_1 (a2 + a3), nxt_ok _ _ _ _ _ h (by omega) (by omega), nxt_ok _ _ _ _ _ h (by omega) (by omega)]
    simp only [Option.bind_some]
    rw [if_neg (show ¬ a0_5 = 0 by omega), Int.tmod_eq_emod_of_nonneg (by omega), w_id (a1_0 + a3 % a0_5) (by omega) (by omega)]
    generalize a3 % a0_5 = m at *
    have ez : ∃ z, mn 80 (a1_0 + m) = z ∧ a1_0 ≤ z ∧ z < a1_0 + a0_5 ∧ 0 ≤ z ∧ z ≤ 80 := by
      refine ⟨_, rfl, ?_⟩
      unfold mn; split <;> omega
    obtain ⟨z, ez, z1, z2, z3, z4⟩ := ez
    rw [ez, ramp_next, nxt_ok _ _ _ _ _ h z3 z4]
    simp only [Option.bind_some]
    have hm := level_mono ok a2 (a2 + a3) (by omega)
    have l0 := (level_in ok a2).1
    have l1 := (level_in ok (a2 + a3)).1
    have hle : (nextV a0_3 a0_5 a1_0 a1_1 (levelV a0_3 a0_4 a0_5 a2)).1 ≤ (nextV a0_3 a0_5 a1_0 a1_1 (levelV a0_3 a0_4 a0_5 (a2 + a3))).1 := by
      generalize levelV a0_3 a0_4 a0_5 a2 = x at *
      generalize levelV a0_3 a0_4 a0_5 (a2 + a3) = y at *
      unfold nextV
      repeat' split
      all_goals first
        | omega
        | (simp only []; omega)
    by_cases e0 : a1_0 = 0
    · rw [if_pos e0, if_pos hle]; simp
    · rw [if_neg e0]
      have hr : c3le a0_3 a0_4 a0_5 a1_0 := level_row ok g3 e0
      have hz : levelV a0_3 a0_4 a0_5 z = a1_0 := level_of ok z a1_0 hr.1 hr.2 g4 z1 (Or.inr z2)
      rw [hz]
      have en : nextV a0_3 a0_5 a1_0 a1_1 a1_0 = (a1_0, sinceV a1_1) := by
        unfold nextV; rw [if_neg e0, if_neg e0, if_neg (by omega)]
      simp only [en, if_pos hle, if_true]
      congr 1
      rw [beq_iff_eq]
      unfold mn sinceV
      rw [w_id _ (by omega) (by omega)]
      split <;> split <;> omega
  · rw [if_neg h]; simp [chargeparklaw24_RampOrder.j0]
end Go.Proofs.YtagphncpdhaklaaDoor.Pure
