/- Bids and its reference answer alike, said of the printed functions. No conditions. -/
import Derived.Test.YtakmioomcnnfjaaBidsMore
namespace Go.Proofs.Ytakmioomcnnfjaa.Pure
open Go.RowKit Go.Proofs.Ytakmioomcnnfjaa.PAll Go.Proofs.YtakmioomcnnfjaaW.PrintWords Go.Proofs.YtakmioomcnnfjaaW.PrintLast Go.Proofs.YtakmioomcnnfjaaW.PrintMore Go.Proofs.Ytakmioomcnnfjaa.Plain
open Go.Proofs.Ytakmioomcnnfjaa.Hand (recB)

theorem BidsMatchesReference (l0 : List (List Int)) (l1 : List Bool) (a2 a3 : Int) (y0 : l0.length ≤ 9223372036854775807) (_ : (Lit.int .i64 a2).wf = true) (_ : (Lit.int .i64 a3).wf = true) : ∃ k, chargeparklaw30_BidsMatchesReference.f k l0 l1 a2 a3 = some true := by
  refine ⟨5000 + l0.length + 1, ?_⟩
  obtain ⟨b, hb⟩ := few 5000 l0 l1 y0
  unfold chargeparklaw30_BidsMatchesReference.f chargeparklaw30_head_c.f
  rw [hb]
  simp only [Option.bind_some]
  cases b with
  | false => rw [if_neg (by decide)]
  | true =>
    rw [if_pos rfl]
    have e1 : bids_Baseline.f (5000 + l0.length + 1) l0 l1 a2 a3 = chargeparkref30_Baseline.f (5000 + l0.length + 1) l0 l1 a2 a3 := by
      by_cases h : okB l0 l1 a2 a3
      · rw [show 5000 + l0.length + 1 = (l0.length + 3001) + 2000 by omega, base_ok _ h, show (l0.length + 3001) + 2000 = (l0.length + 2901) + 2100 by omega, ref_ok _ h]
      · rw [show 5000 + l0.length + 1 = (l0.length + 3001) + 2000 by omega, base_bad _ h, show (l0.length + 3001) + 2000 = (l0.length + 2901) + 2100 by omega, ref_bad _ h]
    have e2 : chargeparkref30_Delivered.f (5000 + l0.length + 1) l0 l1 a2 = bids_Delivered.f l0 l1 a2 := by
      by_cases h : recB l0 l1 = true ∧ 0 ≤ a2 ∧ a2 < l0.length
      · rw [show 5000 + l0.length + 1 = (l0.length + 2801) + 2200 by omega, refd_ok _ h.1 h.2.1 h.2.2]
      · rw [show 5000 + l0.length + 1 = (l0.length + 2801) + 2200 by omega, refd_bad _ h, deliv_bad h]
    rw [e2, ← e1]
    have e3 : ∃ p, bids_Baseline.f (5000 + l0.length + 1) l0 l1 a2 a3 = some p := by
      by_cases h : okB l0 l1 a2 a3
      · rw [show 5000 + l0.length + 1 = (l0.length + 3001) + 2000 by omega, base_ok _ h]; exact ⟨_, rfl⟩
      · rw [show 5000 + l0.length + 1 = (l0.length + 3001) + 2000 by omega, base_bad _ h]; exact ⟨_, rfl⟩
    have e4 : ∃ p, bids_Delivered.f l0 l1 a2 = some p := by
      by_cases h : recB l0 l1 = true ∧ 0 ≤ a2 ∧ a2 < l0.length
      · rw [deliv_ok h.1 h.2.1 h.2.2]; exact ⟨_, rfl⟩
      · rw [deliv_bad h]; exact ⟨_, rfl⟩
    obtain ⟨p, e3⟩ := e3
    obtain ⟨q, e4⟩ := e4
    rw [e3, e4]
    simp only [Option.bind_some]
    simp
end Go.Proofs.Ytakmioomcnnfjaa.Pure
