/- A welded contactor stays welded, and none but an opening with 1 welds it, said of the printed functions. No conditions. -/
import Derived.Test.YtnfanhnflcjphaaDoorPAllx14
import Derived.Test.YtnfanhnflcjphaaDoorChargerPlain
namespace Go.Proofs.YtnfanhnflcjphaaDoor.Pure
open Go.RowKit Go.Proofs.YtnfanhnflcjphaaDoor.PAll Go.Proofs.YtnfanhnflcjphaaDoorW.PrintWords Go.Proofs.YtnfanhnflcjphaaDoorW.PrintLast Go.Proofs.YtnfanhnflcjphaaDoorW.PrintMore Go.Proofs.YtnfanhnflcjphaaDoor.Plain

theorem weld_next {T am lf : Int} {we : Bool} {k n m ph' am' lf' : Int} {we' : Bool} (hw : (ph', am', lf', we') = Hand.stepW T am lf we k n m) : we' = (we || (if k = 6 then (n == 1) else false)) := by
  have hq : we' = (Hand.stepW T am lf we k n m).2.2.2 := by rw [← hw]
  rw [hq]
  clear hq hw
  unfold Hand.stepW
  by_cases k7 : k = 7
  · rw [if_pos k7, if_neg (show ¬ k = 6 by omega)]; simp
  rw [if_neg k7]
  by_cases k8 : k = 8
  · rw [if_pos k8, if_neg (show ¬ k = 6 by omega)]; split <;> simp
  rw [if_neg k8]
  by_cases k9 : k = 9
  · rw [if_pos k9, if_neg (show ¬ k = 6 by omega)]; simp
  rw [if_neg k9]
  by_cases k6 : k = 6
  · rw [if_pos k6, if_pos k6]
    by_cases n1 : n = 1
    · rw [if_pos n1, n1]; simp
    · rw [if_neg n1]
      have : (n == 1) = false := by simpa using n1
      rw [this]
      split <;> simp
  rw [if_neg k6, if_neg k6]
  repeat' split
  all_goals simp

theorem weld_loop (c0 : ByteArray) (c1 c2 c3 c4 c5 c6 c7 : Int) (l : List S27) (hl : l.length ≤ 100) (d : Nat) : ∀ (k : Nat) (i ph am lf : Int) (we : Bool),
    sB c2 c3 c4 c5 c6 ph am lf we = true → (l.length : Int) - i ≤ d → 2 * d < k → 0 ≤ i → i ≤ 100 →
    chargeparklaw12_ChargerWelded.l0 k l true we i c0 c1 c2 c3 c4 c5 c6 c7 ph am lf we = some true := by
  induction d with
  | zero =>
    intro k i ph am lf we h hd hk hi hi2
    obtain ⟨k, rfl⟩ : ∃ m, k = m + 1 := ⟨k - 1, by omega⟩
    rw [chargeparklaw12_ChargerWelded.l0, if_neg (by omega)]
  | succ d ih =>
    intro k i ph am lf we h hd hk hi hi2
    obtain ⟨k, rfl⟩ : ∃ m, k = m + 1 + 1 := ⟨k - 2, by omega⟩
    rw [chargeparklaw12_ChargerWelded.l0]
    by_cases hc : i < (l.length : Int)
    · rw [if_pos hc, if_pos hi, step_eq, w_id (i + 1) (by omega) (by omega)]
      generalize rd_T27 l i = e
      obtain ⟨kd, n, m⟩ := e
      simp only [Option.bind_some]
      have rest : ∀ (ph' am' lf' : Int) (we' b : Bool), sB c2 c3 c4 c5 c6 ph' am' lf' we' = true → b = we' →
          chargeparklaw12_ChargerWelded.j2 (k + 1) l true b i c0 c1 c2 c3 c4 c5 c6 c7 ph' am' lf' we' = some true := by
        intro ph' am' lf' we' b h' hb
        subst hb
        rw [chargeparklaw12_ChargerWelded.j2, if_pos rfl, if_pos (by simp), w_id (i + 1) (by omega) (by omega), allowed_eq _ _ _ h']
        simp only [Option.bind_some]
        have g := ih k (i + 1) ph' am' lf' b h' (by omega) (by omega) (by omega) (by omega)
        obtain ⟨hc', o'⟩ := sB_true h'
        cases b with
        | false => rw [if_neg (by decide)]; exact g
        | true =>
          have hv : alw c4 c6 ph' am' lf' true = c4 := by unfold alw; rw [if_pos rfl]
          have hp : (ph' == 5) = true := by rw [o'.f rfl]; rfl
          rw [if_pos rfl, if_pos hv, hp]; exact g
      rcases stp_cases h kd n m with (⟨e, _⟩ | ⟨e, _⟩ | ⟨e, _⟩) | ⟨ph', am', lf', we', e, hv, hk9, hf, ht, hw⟩
      · rw [e, if_neg (by decide)]; exact ih (k + 1) (i + 1) ph am lf we h (by omega) (by omega) (by omega) (by omega)
      · rw [e, if_neg (by decide)]; exact ih (k + 1) (i + 1) ph am lf we h (by omega) (by omega) (by omega) (by omega)
      · rw [e, if_neg (by decide)]; exact ih (k + 1) (i + 1) ph am lf we h (by omega) (by omega) (by omega) (by omega)
      · rw [e]
        simp only [if_true]
        have hn := weld_next hw
        cases we with
        | true => rw [if_pos rfl]; exact rest _ _ _ _ _ hv (by rw [hn]; rfl)
        | false =>
          rw [if_neg (by decide)]
          by_cases k6 : kd = 6
          · rw [if_pos k6]; rw [if_pos k6] at hn; exact rest _ _ _ _ _ hv (by rw [hn]; rfl)
          · rw [if_neg k6]; rw [if_neg k6] at hn; exact rest _ _ _ _ _ hv (by rw [hn]; rfl)
    · rw [if_neg hc]

theorem ChargerWelded (a0_0 : ByteArray) (a0_1 a0_2 a0_3 a0_4 a0_5 a0_6 a0_7 a1_0 a1_1 a1_2 : Int) (a1_3 : Bool) (l2 : List S27) (_ : (Lit.int .i64 a0_1).wf = true) (_ : (Lit.int .i64 a0_2).wf = true) (_ : (Lit.int .i64 a0_3).wf = true) (_ : (Lit.int .i64 a0_4).wf = true) (_ : (Lit.int .i64 a0_5).wf = true) (_ : (Lit.int .i64 a0_6).wf = true) (_ : (Lit.int .i64 a0_7).wf = true) (_ : (Lit.int .i64 a1_0).wf = true) (_ : (Lit.int .i64 a1_1).wf = true) (_ : (Lit.int .i64 a1_2).wf = true) (_ : ∀ n ∈ l2, (Lit.int .i64 n.f0).wf = true ∧ (Lit.int .i64 n.f1).wf = true ∧ (Lit.int .i64 n.f2).wf = true) :
    ∃ k, chargeparklaw12_ChargerWelded.f k a0_0 a0_1 a0_2 a0_3 a0_4 a0_5 a0_6 a0_7 a1_0 a1_1 a1_2 a1_3 l2 = some true := by
  refine ⟨300, ?_⟩
  unfold chargeparklaw12_ChargerWelded.f chargeparklaw12_head_c.f
  rw [ref_valid a0_0 a0_1 a0_2 a0_3 a0_4 a0_5 a0_6 a0_7 a1_0 a1_1 a1_2 a1_3 299]
  simp only [Option.bind_some]
  by_cases h : sB a0_2 a0_3 a0_4 a0_5 a0_6 a1_0 a1_1 a1_2 a1_3 = true
  · rw [if_pos h]
    by_cases d1 : (l2.length : Int) > 100
    · rw [decide_eq_true d1]; simp [chargeparklaw12_ChargerWelded.j0]
    rw [decide_eq_false d1, chargeparklaw12_ChargerWelded.j0, if_neg (by simp)]
    exact weld_loop a0_0 a0_1 a0_2 a0_3 a0_4 a0_5 a0_6 a0_7 l2 (by omega) 100 299 0 _ _ _ _ h (by omega) (by omega) (by omega) (by omega)
  · rw [if_neg h]; simp [chargeparklaw12_ChargerWelded.j0]
end Go.Proofs.YtnfanhnflcjphaaDoor.Pure
