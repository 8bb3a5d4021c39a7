/- The delivery is the sum of what the slots fall short by, said of the printed functions. No conditions. -/
import Derived.Test.YtakmioomcnnfjaaPAllx8
import Derived.Test.YtakmioomcnnfjaaBidsMore
namespace Go.Proofs.Ytakmioomcnnfjaa.Pure
open Go.RowKit Go.Proofs.Ytakmioomcnnfjaa.PAll Go.Proofs.YtakmioomcnnfjaaW.PrintWords Go.Proofs.YtakmioomcnnfjaaW.PrintLast Go.Proofs.YtakmioomcnnfjaaW.PrintMore Go.Proofs.Ytakmioomcnnfjaa.Plain
open Go.Proofs.Ytakmioomcnnfjaa.Hand (recB)

variable {l0 : List (List Int)} {l1 : List Bool} {m : Nat}

theorem dev_loop (hv : recB l0 l1 = true) (h : RecT l0 l1 m) (n x : Nat) (hn : n < l0.length) (hx : x < m) (hc : ¬ (cs l1 n 5).length < 5) (K : Nat) (hj : ∀ k, K ≤ k → chargeparklaw30_BidsDelivery.j2 k l0 l1 (n : Int) true (x : Int) (tot (sh l0 l1 n) m) = some true) : ∀ (q k i : Nat), i + q = m → K ≤ k →
    chargeparklaw30_BidsDelivery.l0 (k + 2000 + q + 1) l0 l1 (n : Int) true (x : Int) (tot (sh l0 l1 n) m) (tot (sh l0 l1 n) i) (tot (fun j => (base5 l0 l1 n j).1) i) (i : Int) = some true
  | 0, k, i, hi, hk => by
    have hl := h.len hn
    obtain rfl : i = m := by omega
    have ht := tot_bnd (f := sh l0 l1 n) (c := 1000) i (fun j _ => by have := sh_bnd h n j; have := base5_bnd h n j; omega)
    have hle : tot (sh l0 l1 n) i ≤ tot (fun j => (base5 l0 l1 n j).1) i := tot_le i (fun j _ => (sh_bnd h n j).2)
    rw [show k + 2000 + 0 + 1 = k + 2000 + 1 by omega, chargeparklaw30_BidsDelivery.l0, if_pos (by omega), if_pos (by omega), if_neg (by omega), if_pos rfl, if_pos rfl, if_pos ht.1, decide_eq_true hle, hj _ (by omega)]
  | q + 1, k, i, hi, hk => by
    have hl := h.len hn
    have hm := h.m2 (by omega)
    have ht := tot_bnd (f := sh l0 l1 n) (c := 1000) i (fun j _ => by have := sh_bnd h n j; have := base5_bnd h n j; omega)
    have hb' := tot_bnd (f := fun j => (base5 l0 l1 n j).1) (c := 1000) i (fun j _ => base5_bnd h n j)
    have hb := base5_bnd h n i
    have ha := h.at n i
    have ih := dev_loop hv h n x hn hx hc K hj q k (i + 1) (by omega) hk
    rw [tot_succ, tot_succ] at ih
    rw [show k + 2000 + (q + 1) + 1 = (k + 2000 + q + 1) + 1 by omega, chargeparklaw30_BidsDelivery.l0, if_pos (by omega), if_pos (by omega), if_pos (by omega), show k + 2000 + q + 1 = (k + q + 1) + 2000 by omega,
      base_ok _ ⟨hv, by omega, by omega, by omega, by omega, by have := h.hd; omega⟩, Int.toNat_natCast, Int.toNat_natCast]
    simp only [Option.bind_some]
    have hs : mx 0 ((base5 l0 l1 n i).1 - at_ l0 n i) = sh l0 l1 n i := by unfold mx sh; split <;> omega
    have hs' := sh_bnd h n i
    rw [← show k + 2000 + q + 1 = (k + q + 1) + 2000 by omega, if_pos (by rw [base5_all i hc]), if_pos (by omega), rd_at, w_nat i (by omega), w_id ((base5 l0 l1 n i).1 - at_ l0 n i) (by omega) (by omega), hs, w_id _ (by omega) (by omega), w_id _ (by omega) (by omega)]
    exact ih

theorem dev_end (hv : recB l0 l1 = true) (h : RecT l0 l1 m) (n x : Nat) (hn : n < l0.length) (hx : x < m) (hc : ¬ (cs l1 n 5).length < 5) (k : Nat) (hk : 3000 ≤ k) : chargeparklaw30_BidsDelivery.j2 k l0 l1 (n : Int) true (x : Int) (tot (sh l0 l1 n) m) = some true := by
  obtain ⟨k, rfl⟩ : ∃ k', k = (k' + 2000) + 1 := ⟨k - 2001, by omega⟩
  have hl := h.len hn
  have hm := h.m2 (by omega)
  have ha := h.at n x
  have ht := tot_bnd (f := sh l0 l1 n) (c := 1000) m (fun j _ => by have := sh_bnd h n j; have := base5_bnd h n j; omega)
  have hb := base5_bnd h n x
  rw [chargeparklaw30_BidsDelivery.j2, if_pos (by omega), if_pos (by omega), if_pos (by omega), if_pos (by omega), rd_at]
  by_cases g : at_ l0 n x = 0
  · rw [if_pos g]
  rw [if_neg g, show k + 2000 = (k + 1939) + 61 by omega, copy _ h, ← show k + 2000 = (k + 1939) + 61 by omega]
  simp only [Option.bind_some]
  rw [if_pos (by omega), if_pos (by omega), rd_at, w_id (at_ l0 n x - 1) (by omega) (by omega), rd_put]
  have hp := put_rec h (j := x) hn (v := at_ l0 n x - 1) (by omega)
  have hpl := put_len (l0 := l0) n x (at_ l0 n x - 1)
  have hbase : ∀ j, base5 (put l0 n x (at_ l0 n x - 1)) l1 n j = base5 l0 l1 n j := fun j => base5_congr (fun i hi => by
    have := cs_lt l1 n 5 i hi
    rw [put_at h hn hx, if_neg (fun q => by omega)])
  have hother : ∀ j, j < m → j ≠ x → sh (put l0 n x (at_ l0 n x - 1)) l1 n j = sh l0 l1 n j := fun j _ hj => by
    unfold sh; rw [hbase, put_at h hn hx, if_neg (fun q => hj q.2)]
  have hd := deliv_ok (a2 := (n : Int)) hp.back (by omega) (by rw [hpl]; omega)
  rw [Int.toNat_natCast, if_neg hc, hp.hd] at hd
  rw [hd, base_ok _ ⟨hv, by omega, by omega, by omega, by omega, by have := h.hd; omega⟩, Int.toNat_natCast, Int.toNat_natCast]
  simp only [Option.bind_some]
  have he2 : (base5 l0 l1 n x).2 = 0 := by rw [base5_all x hc]
  by_cases g2 : at_ l0 n x ≤ (base5 l0 l1 n x).1
  · have hx1 : sh (put l0 n x (at_ l0 n x - 1)) l1 n x = sh l0 l1 n x + 1 := by
      unfold sh; rw [hbase, put_at h hn hx, if_pos ⟨rfl, rfl⟩]; omega
    rw [if_pos g2, if_pos trivial, if_pos trivial, if_pos he2, w_id _ (by omega) (by omega), tot_one x 1 m hother hx hx1]
    simp
  · have hx1 : sh (put l0 n x (at_ l0 n x - 1)) l1 n x = sh l0 l1 n x + 0 := by
      unfold sh; rw [hbase, put_at h hn hx, if_pos ⟨rfl, rfl⟩]; omega
    rw [if_neg g2, if_pos trivial, if_pos trivial, if_pos he2, w_id _ (by omega) (by omega), tot_one x 0 m hother hx hx1]
    simp

theorem BidsDelivery (l0 : List (List Int)) (l1 : List Bool) (a2 a3 : Int) (y0 : l0.length ≤ 9223372036854775807) (_ : (Lit.int .i64 a2).wf = true) (_ : (Lit.int .i64 a3).wf = true) : ∃ k, chargeparklaw30_BidsDelivery.f k l0 l1 a2 a3 = some true := by
  refine ⟨8000 + l0.length + 2001, ?_⟩
  have no (b : Bool) (hb : b = true) : chargeparklaw30_BidsDelivery.j0 (8000 + l0.length + 2001) l0 l1 a2 a3 true b = some true := by
    rw [show 8000 + l0.length + 2001 = (10000 + l0.length) + 1 by omega, chargeparklaw30_BidsDelivery.j0, if_pos hb]
  obtain ⟨u, hu, hu1⟩ := usable (l0 := l0) (l1 := l1) 8000 y0
  unfold chargeparklaw30_BidsDelivery.f chargeparklaw30_head_c.f
  rw [hu]
  simp only [Option.bind_some]
  cases u with
  | false => rw [if_neg (by decide), no _ rfl]
  | true =>
    obtain ⟨h1, h2⟩ := hu1 rfl
    have h := recT h1
    rw [if_pos rfl]
    by_cases g2 : a2 < 0
    · rw [if_pos g2, no _ rfl]
    rw [if_neg g2]
    by_cases g3 : a2 ≥ (l0.length : Int)
    · rw [if_pos g3, no _ rfl]
    rw [if_neg g3]
    by_cases g4 : a3 < 0
    · rw [no _ (decide_eq_true g4)]
    obtain ⟨n, rfl⟩ := Int.eq_ofNat_of_zero_le (show 0 ≤ a2 by omega)
    have hn : n < l0.length := by omega
    have hl := h.len hn
    have hm1 := h.m1 h2
    have hm2 := h.m2 h2
    rw [decide_eq_false g4, show 8000 + l0.length + 2001 = (l0.length + 10000) + 1 by omega, chargeparklaw30_BidsDelivery.j0, if_neg (by decide), if_pos (by omega), if_pos (by omega), if_neg (by omega), deliv_ok h1 (by omega) (by omega), Int.toNat_natCast]
    simp only [Option.bind_some]
    by_cases c : (cs l1 n 5).length < 5
    · rw [if_pos c]; rfl
    · rw [if_neg c, hl]
      simp only []
      rw [if_pos trivial, Int.tmod_eq_emod_of_nonneg (by omega)]
      have e1 : 0 ≤ a3 % ((l0.headD []).length : Int) := Int.emod_nonneg _ (by omega)
      have e2 : a3 % ((l0.headD []).length : Int) < ((l0.headD []).length : Int) := Int.emod_lt_of_pos _ (by omega)
      obtain ⟨x, hx⟩ := Int.eq_ofNat_of_zero_le e1
      rw [hx] at e2 ⊢
      have hL := dev_loop h1 h n x hn (by omega) c 3000 (fun k hk => dev_end h1 h n x hn (by omega) c k hk) (l0.headD []).length (l0.length + 7999 - (l0.headD []).length) 0 (by omega) (by omega)
      rw [show l0.length + 7999 - (l0.headD []).length + 2000 + (l0.headD []).length + 1 = l0.length + 10000 by omega] at hL
      exact hL
end Go.Proofs.Ytakmioomcnnfjaa.Pure
