/- A day that does not count does not move the mean, said of the printed functions. No conditions. -/
import Derived.Test.YtakmioomcnnfjaaPAllx6
import Derived.Test.YtakmioomcnnfjaaBidsMore
namespace Go.Proofs.Ytakmioomcnnfjaa.Pure
open Go.RowKit Go.Proofs.Ytakmioomcnnfjaa.PAll Go.Proofs.YtakmioomcnnfjaaW.PrintWords Go.Proofs.YtakmioomcnnfjaaW.PrintLast Go.Proofs.YtakmioomcnnfjaaW.PrintMore Go.Proofs.Ytakmioomcnnfjaa.Plain
open Go.Proofs.Ytakmioomcnnfjaa.Hand (recB)

theorem uns_loop {l0 : List (List Int)} {l1 : List Bool} {m : Nat} (hv : recB l0 l1 = true) (h : RecT l0 l1 m) {L : List (List Int)} (hv' : recB L l1 = true) (h' : RecT L l1 m) (hL : L.length = l0.length) (n : Nat) (h0 : 0 < l0.length) (hn : n ≤ l0.length) (he : ∀ j, base5 L l1 n j = base5 l0 l1 n j) : ∀ (q k i : Nat), i + q = m →
    chargeparklaw30_BidsUnshifted.l0 (k + 2000 + q + 1) l0 l1 (n : Int) true L (i : Int) = some true
  | 0, k, i, hi => by
    have hh := h.hd
    rw [show k + 2000 + 0 + 1 = k + 2000 + 1 by omega, chargeparklaw30_BidsUnshifted.l0, if_pos (by omega), rdL0, if_neg (by omega)]
  | q + 1, k, i, hi => by
    have hh := h.hd
    have hh' := h'.hd
    have hm := h.m2 h0
    have ih := uns_loop hv h hv' h' hL n h0 hn he q k (i + 1) (by omega)
    rw [show k + 2000 + (q + 1) + 1 = (k + 2000 + q + 1) + 1 by omega, chargeparklaw30_BidsUnshifted.l0, if_pos (by omega), rdL0, if_pos (by omega), show k + 2000 + q + 1 = (k + q + 1) + 2000 by omega,
      base_ok _ ⟨hv, by omega, by omega, by omega, by omega, by omega⟩, base_ok _ ⟨hv', by omega, by omega, by omega, by omega, by omega⟩, Int.toNat_natCast, Int.toNat_natCast, he]
    simp only [Option.bind_some]
    rw [← show k + 2000 + q + 1 = (k + q + 1) + 2000 by omega, if_pos trivial, if_pos trivial, beq_self_eq_true, w_nat i (by omega)]
    exact ih

theorem BidsUnshifted (l0 : List (List Int)) (l1 : List Bool) (a2 a3 a4 a5 : Int) (y0 : l0.length ≤ 9223372036854775807) (_ : (Lit.int .i64 a2).wf = true) (_ : (Lit.int .i64 a3).wf = true) (_ : (Lit.int .i64 a4).wf = true) (_ : (Lit.int .i64 a5).wf = true) : ∃ k, chargeparklaw30_BidsUnshifted.f k l0 l1 a2 a3 a4 a5 = some true := by
  refine ⟨8000 + l0.length + 2001, ?_⟩
  have no (b : Bool) (hb : b = true) : chargeparklaw30_BidsUnshifted.j0 (8000 + l0.length + 2001) l0 l1 a2 a3 a4 a5 true b = some true := by
    rw [show 8000 + l0.length + 2001 = (10000 + l0.length) + 1 by omega, chargeparklaw30_BidsUnshifted.j0, if_pos hb]
  obtain ⟨u, hu, hu1⟩ := usable (l0 := l0) (l1 := l1) 8000 y0
  unfold chargeparklaw30_BidsUnshifted.f chargeparklaw30_head_c.f
  rw [hu]
  simp only [Option.bind_some]
  cases u with
  | false => rw [if_neg (by decide), no _ rfl]
  | true =>
    obtain ⟨h1, h2⟩ := hu1 rfl
    have h := recT h1
    rw [if_pos rfl]
    by_cases g6 : a4 < 0
    · rw [if_pos g6, no _ rfl]
    rw [if_neg g6]
    by_cases g7 : a5 < 0
    · rw [if_pos g7, no _ rfl]
    rw [if_neg g7]
    by_cases g8 : a5 > 1000
    · rw [if_pos g8, no _ rfl]
    rw [if_neg g8]
    by_cases g2 : a2 < 0
    · rw [if_pos g2, no _ rfl]
    rw [if_neg g2]
    by_cases g3 : a2 > (l0.length : Int)
    · rw [if_pos g3, no _ rfl]
    rw [if_neg g3]
    by_cases g4 : a3 < 0
    · rw [no _ (decide_eq_true g4)]
    rw [decide_eq_false g4]
    obtain ⟨n, rfl⟩ := Int.eq_ofNat_of_zero_le (show 0 ≤ a2 by omega)
    have e1 : 0 ≤ a4 % (l0.length : Int) := Int.emod_nonneg _ (by omega)
    have e2 : a4 % (l0.length : Int) < (l0.length : Int) := Int.emod_lt_of_pos _ (by omega)
    obtain ⟨d, hd⟩ := Int.eq_ofNat_of_zero_le e1
    have hm1 := h.m1 h2
    have hm2 := h.m2 h2
    have hf := h.few
    have hsame := h.same
    have hdl : d < l0.length := by omega
    have hl := h.len hdl
    rw [show 8000 + l0.length + 2001 = (l0.length + 10000) + 1 by omega, chargeparklaw30_BidsUnshifted.j0, if_neg (by decide), if_neg (by omega), Int.tmod_eq_emod_of_nonneg (by omega), hd, show l0.length + 10000 = (l0.length + 9938) + 62 by omega, counts _ _ _ _ (by omega) (by omega)]
    simp only [Option.bind_some]
    by_cases c : d ∈ cs l1 n 5
    · rw [if_pos (decide_eq_true c)]
    rw [if_neg (by rw [decide_eq_false c]; decide), show l0.length + 9938 + 62 = (l0.length + 9939) + 61 by omega, copy _ h]
    simp only [Option.bind_some]
    have e3 : 0 ≤ a3 % ((l0.headD []).length : Int) := Int.emod_nonneg _ (by omega)
    have e4 : a3 % ((l0.headD []).length : Int) < ((l0.headD []).length : Int) := Int.emod_lt_of_pos _ (by omega)
    obtain ⟨s, hs⟩ := Int.eq_ofNat_of_zero_le e3
    rw [if_pos (by omega), if_pos (by omega), hl, if_neg (by omega), Int.tmod_eq_emod_of_nonneg (by omega), hs, if_pos (by omega), if_pos (by omega), rd_put]
    have hp := put_rec h (j := s) hdl (v := a5) (by omega)
    have hL := uns_loop h1 h hp.back hp (put_len d s a5) n h2 (by omega) (fun j => base5_congr (fun i hi => by
      rw [put_at h hdl (by omega), if_neg (show ¬ (i = d ∧ j = s) from fun q => c (q.1 ▸ hi))])) (l0.headD []).length (l0.length + 7999 - (l0.headD []).length) 0 (by omega)
    rw [show l0.length + 7999 - (l0.headD []).length + 2000 + (l0.headD []).length + 1 = l0.length + 9939 + 61 by omega] at hL
    exact hL
end Go.Proofs.Ytakmioomcnnfjaa.Pure
