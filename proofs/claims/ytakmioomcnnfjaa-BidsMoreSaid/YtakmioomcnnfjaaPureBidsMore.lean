/- A greater bid never lowers the mean, and raises it by no more than its fifth, said of the printed functions. No conditions. -/
import Derived.Test.YtakmioomcnnfjaaPAllx9
import Derived.Test.YtakmioomcnnfjaaBidsMore
namespace Go.Proofs.Ytakmioomcnnfjaa.Pure
open Go.RowKit Go.Proofs.Ytakmioomcnnfjaa.PAll Go.Proofs.YtakmioomcnnfjaaW.PrintWords Go.Proofs.YtakmioomcnnfjaaW.PrintLast Go.Proofs.YtakmioomcnnfjaaW.PrintMore Go.Proofs.Ytakmioomcnnfjaa.Plain
open Go.Proofs.Ytakmioomcnnfjaa.Hand (recB)

theorem BidsMore (l0 : List (List Int)) (l1 : List Bool) (a2 a3 a4 a5 : Int) (y0 : l0.length ≤ 9223372036854775807) (_ : (Lit.int .i64 a2).wf = true) (_ : (Lit.int .i64 a3).wf = true) (_ : (Lit.int .i64 a4).wf = true) (_ : (Lit.int .i64 a5).wf = true) : ∃ k, chargeparklaw30_BidsMore.f k l0 l1 a2 a3 a4 a5 = some true := by
  refine ⟨8000 + l0.length + 2001, ?_⟩
  have no (b : Bool) (hb : b = true) : chargeparklaw30_BidsMore.j0 (8000 + l0.length + 2001) l0 l1 a2 a3 a4 a5 true b = some true := by
    rw [show 8000 + l0.length + 2001 = (10000 + l0.length) + 1 by omega, chargeparklaw30_BidsMore.j0, if_pos hb]
  obtain ⟨u, hu, hu1⟩ := usable (l0 := l0) (l1 := l1) 8000 y0
  unfold chargeparklaw30_BidsMore.f chargeparklaw30_head_c.f
  rw [hu]
  simp only [Option.bind_some]
  cases u with
  | false => rw [if_neg (by decide), no _ rfl]
  | true =>
    obtain ⟨h1, h2⟩ := hu1 rfl
    have h := recT h1
    rw [if_pos rfl]
    by_cases g2 : a2 < 1
    · rw [if_pos g2, no _ rfl]
    rw [if_neg g2]
    by_cases g3 : a2 > (l0.length : Int)
    · rw [if_pos g3, no _ rfl]
    rw [if_neg g3]
    by_cases g4 : a3 < 0
    · rw [if_pos g4, no _ rfl]
    rw [if_neg g4, if_pos (by omega), rdL0]
    by_cases g5 : a3 ≥ ((l0.headD []).length : Int)
    · rw [if_pos g5, no _ rfl]
    rw [if_neg g5]
    by_cases g6 : a4 < 0
    · rw [if_pos g6, no _ rfl]
    rw [if_neg g6]
    by_cases g7 : a5 < 0
    · rw [if_pos g7, no _ rfl]
    rw [if_neg g7]
    by_cases g8 : a5 > 1000
    · rw [no _ (decide_eq_true g8)]
    rw [decide_eq_false g8]
    obtain ⟨n, rfl⟩ := Int.eq_ofNat_of_zero_le (show 0 ≤ a2 by omega)
    obtain ⟨s, rfl⟩ := Int.eq_ofNat_of_zero_le (show 0 ≤ a3 by omega)
    have e1 : 0 ≤ a4 % (n : Int) := Int.emod_nonneg _ (by omega)
    have e2 : a4 % (n : Int) < (n : Int) := Int.emod_lt_of_pos _ (by omega)
    obtain ⟨d, hd⟩ := Int.eq_ofNat_of_zero_le e1
    have hm2 := h.m2 h2
    have hdl : d < l0.length := by omega
    have hs : s < (l0.headD []).length := by omega
    have hl := h.len hdl
    have ha := h.at d s
    rw [show 8000 + l0.length + 2001 = (l0.length + 10000) + 1 by omega, chargeparklaw30_BidsMore.j0, if_neg (by decide), if_neg (by omega), Int.tmod_eq_emod_of_nonneg (by omega), hd, show l0.length + 10000 = (l0.length + 9939) + 61 by omega, copy _ h]
    try simp only [Option.bind_some]
    rw [if_pos (by omega), if_pos (by omega), if_pos (by omega), if_pos (by omega), rd_at, w_id (at_ l0 d s + a5) (by omega) (by omega), rd_put]
    try simp only [Option.bind_some]
    rw [show l0.length + 9939 + 61 = (l0.length + 8000) + 2000 by omega, valid, base_ok _ ⟨h1, h2, by omega, by omega, by omega, by omega⟩, Int.toNat_natCast, Int.toNat_natCast]
    try simp only [Option.bind_some]
    by_cases hv : recB (put l0 d s (at_ l0 d s + a5)) l1 = true
    · have h' := recT hv
      have hp1 := put_hd (j := s) h hdl (at_ l0 d s + a5)
      have hpl := put_len (l0 := l0) d s (at_ l0 d s + a5)
      rw [base_ok _ ⟨hv, by omega, by omega, by omega, by omega, by omega⟩, Int.toNat_natCast, Int.toNat_natCast, hv]
      simp only [Option.bind_some]
      rw [if_pos trivial, if_pos trivial]
      have hb := sm_bnd h n s
      have hb' := sm_bnd h' n s
      have hq : sm (put l0 d s (at_ l0 d s + a5)) l1 n s = sm l0 l1 n s + (if d ∈ cs l1 n 5 then a5 else 0) := by
        unfold sm
        rw [cs_tot l1 (fun i => at_ l0 i s), cs_tot l1 (fun i => at_ (put l0 d s (at_ l0 d s + a5)) i s)]
        refine tot_one d _ n (fun j _ hj => ?_) (by omega) ?_
        · split
          · rw [put_at h hdl hs, if_neg (fun q => hj q.1)]
          · rfl
        · have hpat := put_at h hdl hs (at_ l0 d s + a5) d s
          rw [if_pos ⟨rfl, rfl⟩] at hpat
          rw [hpat]
          split <;> omega
      have hq2 : sm l0 l1 n s ≤ sm (put l0 d s (at_ l0 d s + a5)) l1 n s ∧ sm (put l0 d s (at_ l0 d s + a5)) l1 n s ≤ sm l0 l1 n s + a5 := by
        rw [hq]; split <;> omega
      by_cases c : (cs l1 n 5).length < 5
      · rw [base5_few s c, base5_few s c]
        simp only []
        rw [if_pos trivial, if_pos (by omega), Int.tdiv_eq_ediv_of_nonneg (by rw [w_id _ (by omega) (by omega)]; omega), w_id (a5 + 4) (by omega) (by omega), w_id ((a5 + 4) / 5) (by omega) (by omega), w_id _ (by omega) (by omega), decide_eq_true (by omega)]
      · rw [base5_all s c, base5_all s c]
        simp only []
        rw [if_pos trivial, if_pos (by omega), Int.tdiv_eq_ediv_of_nonneg (by rw [w_id _ (by omega) (by omega)]; omega), w_id (a5 + 4) (by omega) (by omega), w_id ((a5 + 4) / 5) (by omega) (by omega), w_id _ (by omega) (by omega), decide_eq_true (by omega)]
    · rw [base_bad _ (fun q => hv q.1), Bool.eq_false_iff.2 hv]
      rfl
end Go.Proofs.Ytakmioomcnnfjaa.Pure
