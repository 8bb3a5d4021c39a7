/- For every charger, ramp and wanted current, ramp.Next and ramp.Valid answer as the reference does, said of the printed functions. No conditions. -/
import Derived.Test.YtagphncpdhaklaaDoorPAllx8
import Derived.Test.YtagphncpdhaklaaDoorRampPlain
namespace Go.Proofs.YtagphncpdhaklaaDoor.Pure
open Go.RowKit Go.Proofs.YtagphncpdhaklaaDoor.PAll Go.Proofs.YtagphncpdhaklaaDoorW.PrintWords Go.Proofs.YtagphncpdhaklaaDoorW.PrintLast Go.Proofs.YtagphncpdhaklaaDoorW.PrintMore Go.Proofs.YtagphncpdhaklaaDoor.Plain
open Go.Proofs.YtagphncpdhaklaaDoor.Hand (levelV nextV sinceV)

theorem since_is (r1 : Int) (h0 : 0 ≤ r1) (h1 : r1 ≤ 1000000) : mn (wrap64 (r1 + 1)) 1000000 = sinceV r1 := by
  rw [w_id _ (by omega) (by omega)]; rfl

theorem ref_next (c0 : ByteArray) (c1 c2 c3 c4 c5 c6 c7 r0 r1 want : Int) (k : Nat) : chargeparkref24_Next.f (k + 90) c0 c1 c2 c3 c4 c5 c6 c7 r0 r1 want = some (nxt c2 c3 c4 c5 c6 r0 r1 want) := by
  unfold chargeparkref24_Next.f nxt
  rw [ref_valid c0 c1 c2 c3 c4 c5 c6 c7 r0 r1 (k + 8)]
  simp only [Option.bind_some]
  by_cases h : rB c2 c3 c4 c5 c6 r0 r1 = true
  · rw [if_pos h, if_pos h]
    obtain ⟨ok, g0, g1, g2, g3, g4⟩ := rB_true h
    by_cases d1 : want < 0
    · rw [if_pos d1, if_pos d1]; simp [chargeparkref24_Next.j0]
    rw [if_neg d1, if_neg d1]
    by_cases d2 : 80 < want
    · rw [if_pos d2, decide_eq_true d2]; simp [chargeparkref24_Next.j0]
    rw [if_neg d2, decide_eq_false d2]
    simp only [chargeparkref24_Next.j0]
    rw [if_neg (by simp), ref_level c0 c1 c2 c6 c7 ok want (k + 7)]
    have hl := (level_in ok want).1
    generalize levelV c3 c4 c5 want = L at *
    simp only [Option.bind_some]
    rw [since_is r1 g1 g2]
    have h1 := ok.h1
    have h3 := ok.h3
    have h4 := ok.h4
    have h5 := ok.h5
    unfold nextV
    by_cases e0 : r0 = 0
    · rw [if_pos e0, if_pos e0]
      by_cases e1 : L = 0
      · rw [if_neg (by omega), if_pos e1]; simp only [chargeparkref24_Next.j1]; rw [if_neg (by simp), if_pos e0]
      · rw [if_pos (by omega), if_neg e1]
        by_cases e2 : r1 < 5
        · rw [decide_eq_false (by omega), if_pos e2]; simp only [chargeparkref24_Next.j1]; rw [if_neg (by simp), if_pos e0]
        · rw [decide_eq_true (by omega), if_neg e2]; simp [chargeparkref24_Next.j1]
    · rw [if_neg e0, if_neg e0]; simp only [chargeparkref24_Next.j1]; rw [if_neg (by simp), if_neg e0]
      by_cases e1 : L = 0
      · rw [if_pos e1, if_pos e1]
      · rw [if_neg e1, if_neg e1, w_id (r0 + c5) (by omega) (by omega)]; rfl
  · rw [if_neg h, if_neg h]; simp [chargeparkref24_Next.j0]

theorem RampMatchesReference (a0_0 : ByteArray) (a0_1 a0_2 a0_3 a0_4 a0_5 a0_6 a0_7 a1_0 a1_1 a2 : Int) (_ : (Lit.int .i64 a0_1).wf = true) (_ : (Lit.int .i64 a0_2).wf = true) (_ : (Lit.int .i64 a0_3).wf = true) (_ : (Lit.int .i64 a0_4).wf = true) (_ : (Lit.int .i64 a0_5).wf = true) (_ : (Lit.int .i64 a0_6).wf = true) (_ : (Lit.int .i64 a0_7).wf = true) (_ : (Lit.int .i64 a1_0).wf = true) (_ : (Lit.int .i64 a1_1).wf = true) (_ : (Lit.int .i64 a2).wf = true) :
    ∃ k, chargeparklaw24_RampMatchesReference.f k a0_0 a0_1 a0_2 a0_3 a0_4 a0_5 a0_6 a0_7 a1_0 a1_1 a2 = some true := by
  refine ⟨90, ?_⟩
  unfold chargeparklaw24_RampMatchesReference.f chargeparklaw24_head_c.f
  rw [ramp_next, ref_next a0_0 a0_1 a0_2 a0_3 a0_4 a0_5 a0_6 a0_7 a1_0 a1_1 a2 0, ramp_valid, ref_valid a0_0 a0_1 a0_2 a0_3 a0_4 a0_5 a0_6 a0_7 a1_0 a1_1 8]
  simp
end Go.Proofs.YtagphncpdhaklaaDoor.Pure
