/- The reference of bids and what a turned number does, said of the printed functions. No conditions. -/
import Derived.Test.YtakmioomcnnfjaaPAllx4
import Derived.Test.YtakmioomcnnfjaaBidsPlain
namespace Go.Proofs.Ytakmioomcnnfjaa.Plain
open Go.RowKit Go.Proofs.Ytakmioomcnnfjaa.PAll Go.Proofs.YtakmioomcnnfjaaW.PrintWords Go.Proofs.YtakmioomcnnfjaaW.PrintLast Go.Proofs.YtakmioomcnnfjaaW.PrintMore
open Go.Proofs.Ytakmioomcnnfjaa.Hand (recB baseF delivF baseV delivV down)

theorem sum_rev {α : Type} (f : α → Int) : ∀ l : List α, (l.reverse.map f).sum = (l.map f).sum
  | [] => rfl
  | a :: l => by rw [List.reverse_cons, List.map_append, List.sum_append, sum_rev f l, List.map_cons, List.sum_cons]; simp; omega
theorem sum_bnd {c : Int} : ∀ l : List Int, (∀ x ∈ l, 0 ≤ x ∧ x ≤ c) → 0 ≤ l.sum ∧ l.sum ≤ c * l.length
  | [], _ => by simp
  | a :: l, h => by
    have q := sum_bnd l (fun x hx => h x (List.mem_cons_of_mem _ hx))
    have p := h a (List.mem_cons_self ..)
    rw [List.sum_cons, List.length_cons, show c * ((l.length + 1 : Nat) : Int) = c * l.length + c by rw [show ((l.length + 1 : Nat) : Int) = (l.length : Int) + 1 from rfl, Int.mul_add, Int.mul_one]]
    omega

variable {l0 : List (List Int)} {l1 : List Bool} {m : Nat}

/-- The sum of the days that count. -/
def sm (L : List (List Int)) (B : List Bool) (n j : Nat) : Int := ((cs B n 5).map fun i => at_ L i j).sum
theorem sm_bnd (h : RecT l0 l1 m) (n j : Nat) : 0 ≤ sm l0 l1 n j ∧ sm l0 l1 n j ≤ 5000 := by
  have q := sum_bnd (c := 1000) ((cs l1 n 5).map fun i => at_ l0 i j) (fun x hx => by
    obtain ⟨i, _, rfl⟩ := List.mem_map.1 hx
    exact h.at i j)
  rw [List.length_map] at q
  have := cs_len l1 n 5
  unfold sm
  omega
theorem base5_few {n : Nat} (j : Nat) (h : (cs l1 n 5).length < 5) : base5 l0 l1 n j = (0, 4) := by unfold base5 baseV; rw [if_pos (by rw [List.length_map]; exact h)]
theorem base5_all {n : Nat} (j : Nat) (h : ¬ (cs l1 n 5).length < 5) : base5 l0 l1 n j = (sm l0 l1 n j / 5, 0) := by unfold base5 baseV; rw [if_neg (by rw [List.length_map]; exact h)]; rfl

theorem last5_mem {B : List Bool} {n : Nat} {d : Int} (h : d ∈ last5 B n) : ∃ i : Nat, d = i ∧ i < n := by
  have := List.mem_reverse.2 h
  rw [last5_cs] at this
  obtain ⟨i, hi, rfl⟩ := List.mem_map.1 this
  exact ⟨i, rfl, cs_lt B n 5 i hi⟩
theorem last5_len (B : List Bool) (n : Nat) : (last5 B n).length = (cs B n 5).length := by
  have := congrArg List.length (last5_cs B n)
  rwa [List.length_reverse, List.length_map] at this
theorem last5_sum (L : List (List Int)) (B : List Bool) (n j : Nat) : ((last5 B n).map fun d => at_ L d.toNat j).sum = sm L B n j := by
  rw [← sum_rev, last5_cs, List.map_map]; rfl

theorem ref_loop (h : RecT l0 l1 m) (n slot : Nat) (hn : n ≤ l0.length) (hs : slot < m) : ∀ (q k i : Nat) (acc : Int), i + q = (last5 l1 n).length → 0 ≤ acc → acc ≤ 1000 * i →
    chargeparkref30_Baseline.l0 (k + q + 1) l0 (slot : Int) (last5 l1 n) acc (i : Int) = some (wrap64 (Int.tdiv (acc + (((last5 l1 n).drop i).map fun d => at_ l0 d.toNat slot).sum) 5), 0)
  | 0, k, i, acc, hi, _, _ => by
    rw [show k + 0 + 1 = k + 1 by omega, chargeparkref30_Baseline.l0, if_neg (by omega), List.drop_of_length_le (by omega)]
    simp
  | q + 1, k, i, acc, hi, h0, h1 => by
    have hlt : i < (last5 l1 n).length := by omega
    obtain ⟨d, hd, hdn⟩ := last5_mem (List.getElem_mem hlt)
    have h5 := cs_len l1 n 5
    have hl := last5_len l1 n
    have hr : rd (last5 l1 n) (i : Int) = (d : Int) := by rw [rdI, get_of _ hlt, hd]
    have hb := h.at d slot
    have hrow := h.len (i := d) (by omega)
    rw [show k + (q + 1) + 1 = (k + q + 1) + 1 by omega, chargeparkref30_Baseline.l0, if_pos (by omega), if_pos (by omega), hr, if_pos (by omega), if_pos (by omega), if_pos (by omega), if_pos (by omega), rd_at, w_id _ (by omega) (by omega), w_nat i (by omega),
      ref_loop h n slot hn hs q k (i + 1) _ (by omega) (by omega) (by omega), List.drop_eq_getElem_cons hlt, List.map_cons, List.sum_cons, hd, Int.toNat_natCast, Int.add_assoc]

theorem ref_ok (k : Nat) {a2 a3 : Int} (h : okB l0 l1 a2 a3) : chargeparkref30_Baseline.f (k + 2100) l0 l1 a2 a3 = some (base5 l0 l1 a2.toNat a3.toNat) := by
  obtain ⟨h1, h2, h3, h4, h5, h6⟩ := h
  have hr := recT h1
  have hm := hr.m2 h2
  have hf := hr.few
  have hsame := hr.same
  unfold chargeparkref30_Baseline.f
  rw [show k + 2100 = (k + 100) + 2000 by omega, valid, h1]
  simp only [Option.bind_some, if_true]
  rw [if_neg (by omega), if_neg (by omega), if_neg (by omega), if_neg (by omega), if_pos (by omega), rdL0, decide_eq_false (by omega), show k + 100 + 2000 = (k + 2099) + 1 by omega, chargeparkref30_Baseline.j0, if_neg (by decide)]
  obtain ⟨n, rfl⟩ := Int.eq_ofNat_of_zero_le h3
  obtain ⟨s, rfl⟩ := Int.eq_ofNat_of_zero_le h5
  rw [show k + 2099 = (k + 2038) + 61 by omega, counting _ _ _ (by omega) (by omega)]
  simp only [Option.bind_some, Int.toNat_natCast]
  have hl := last5_len l1 n
  have hc := cs_len l1 n 5
  by_cases c : (cs l1 n 5).length < 5
  · rw [if_pos (by omega), base5_few s c]
  · have hb := sm_bnd hr n s
    have hL := ref_loop hr n s (by omega) (by omega) (last5 l1 n).length (k + 2098 - (last5 l1 n).length) 0 0 (by omega) (by omega) (by omega)
    rw [show k + 2098 - (last5 l1 n).length + (last5 l1 n).length + 1 = k + 2038 + 61 by omega, show ((0 : Nat) : Int) = 0 from rfl, List.drop_zero, last5_sum, Int.zero_add, Int.tdiv_eq_ediv_of_nonneg hb.1, w_id _ (by omega) (by omega)] at hL
    rw [if_neg (by omega), hL, base5_all s c]

theorem ref_bad (k : Nat) {a2 a3 : Int} (h : ¬ okB l0 l1 a2 a3) : chargeparkref30_Baseline.f (k + 2100) l0 l1 a2 a3 = some (0, 1) := by
  have no (b : Bool) (hb : b = true) : chargeparkref30_Baseline.j0 (k + 2100) l0 l1 a2 a3 b = some (0, 1) := by
    rw [show k + 2100 = (k + 2099) + 1 by omega, chargeparkref30_Baseline.j0, if_pos hb]
  unfold chargeparkref30_Baseline.f
  rw [show k + 2100 = (k + 100) + 2000 by omega, valid, ← show k + 2100 = (k + 100) + 2000 by omega]
  simp only [Option.bind_some]
  by_cases h1 : recB l0 l1 = true
  · rw [if_pos h1]
    by_cases g1 : (l0.length : Int) = 0
    · rw [if_pos g1, no _ rfl]
    rw [if_neg g1]
    by_cases g2 : a2 < 0
    · rw [if_pos g2, no _ rfl]
    rw [if_neg g2]
    by_cases g3 : a2 > (l0.length : Int)
    · rw [if_pos g3, no _ rfl]
    rw [if_neg g3]
    by_cases g4 : a3 < 0
    · rw [if_pos g4, no _ rfl]
    rw [if_neg g4, if_pos (by omega), rdL0, no _ (decide_eq_true (by
      rcases Int.lt_or_le a3 (l0.headD []).length with q | q
      · exact absurd ⟨h1, by omega, by omega, by omega, by omega, q⟩ h
      · exact q))]
  · rw [if_neg h1, no _ rfl]

/-- What a slot of a day falls short by. -/
def sh (L : List (List Int)) (B : List Bool) (n j : Nat) : Int := max 0 ((base5 L B n j).1 - at_ L n j)
theorem base5_bnd (h : RecT l0 l1 m) (n j : Nat) : 0 ≤ (base5 l0 l1 n j).1 ∧ (base5 l0 l1 n j).1 ≤ 1000 := by
  have hb := sm_bnd h n j
  by_cases c : (cs l1 n 5).length < 5
  · rw [base5_few j c]; exact ⟨by decide, by decide⟩
  · rw [base5_all j c]; simp only []; omega
theorem sh_bnd (h : RecT l0 l1 m) (n j : Nat) : 0 ≤ sh l0 l1 n j ∧ sh l0 l1 n j ≤ (base5 l0 l1 n j).1 := by
  have hb := base5_bnd h n j
  have ha := h.at n j
  unfold sh
  omega

theorem deliv_ok {a2 : Int} (h1 : recB l0 l1 = true) (h2 : 0 ≤ a2) (h3 : a2 < l0.length) : bids_Delivered.f l0 l1 a2 = some (if (cs l1 a2.toNat 5).length < 5 then (0, 4) else (tot (sh l0 l1 a2.toNat) (l0.headD []).length, 0)) := by
  obtain ⟨n, rfl⟩ := Int.eq_ofNat_of_zero_le h2
  unfold bids_Delivered.f delivF delivV
  rw [if_pos ⟨h1, h2, h3⟩, Int.toNat_natCast, down_cs l0 l1 n 5 (by omega), List.length_map]
  congr 1
  by_cases c : (cs l1 n 5).length < 5
  · rw [if_pos c, if_pos c]
  · rw [if_neg c, if_neg c, ← tot_range]
    congr 2
    apply List.map_congr_left
    intro j _
    unfold sh
    rw [base5_all j c, List.map_map]
    rfl
theorem deliv_bad {a2 : Int} (h : ¬ (recB l0 l1 = true ∧ 0 ≤ a2 ∧ a2 < l0.length)) : bids_Delivered.f l0 l1 a2 = some (0, 1) := by
  unfold bids_Delivered.f delivF; rw [if_neg h]

theorem refd_loop (hv : recB l0 l1 = true) (h : RecT l0 l1 m) (n : Nat) (hn : n < l0.length) (hc : ¬ (cs l1 n 5).length < 5) : ∀ (q k i : Nat), i + q = m →
    chargeparkref30_Delivered.l0 (k + 2100 + q + 1) l0 l1 (n : Int) (tot (sh l0 l1 n) i) (i : Int) = some (tot (sh l0 l1 n) m, 0)
  | 0, k, i, hi => by
    have hl := h.len hn
    obtain rfl : i = m := by omega
    rw [show k + 2100 + 0 + 1 = k + 2100 + 1 by omega, chargeparkref30_Delivered.l0, if_pos (by omega), if_pos (by omega), if_neg (by omega)]
  | q + 1, k, i, hi => by
    have hl := h.len hn
    have hm := h.m2 (by omega)
    have ht := tot_bnd (f := sh l0 l1 n) (c := 1000) i (fun j _ => by have := sh_bnd h n j; have := base5_bnd h n j; omega)
    have hb := base5_bnd h n i
    have ha := h.at n i
    have ih := refd_loop hv h n hn hc q k (i + 1) (by omega)
    rw [tot_succ] at ih
    rw [show k + 2100 + (q + 1) + 1 = (k + 2100 + q + 1) + 1 by omega, chargeparkref30_Delivered.l0, if_pos (by omega), if_pos (by omega), if_pos (by omega), show k + 2100 + q + 1 = (k + q + 1) + 2100 by omega,
      ref_ok _ ⟨hv, by omega, by omega, by omega, by omega, by have := h.hd; omega⟩, Int.toNat_natCast, Int.toNat_natCast]
    simp only [Option.bind_some]
    rw [← show k + 2100 + q + 1 = (k + q + 1) + 2100 by omega, if_pos (by rw [base5_all i hc]), if_pos (by omega), rd_at, w_nat i (by omega)]
    by_cases g : (base5 l0 l1 n i).1 > at_ l0 n i
    · rw [if_pos g, w_id (tot (sh l0 l1 n) i + (base5 l0 l1 n i).1) (by omega) (by omega), w_id _ (by omega) (by omega), show tot (sh l0 l1 n) i + (base5 l0 l1 n i).1 - at_ l0 n i = tot (sh l0 l1 n) i + sh l0 l1 n i by unfold sh; omega]
      exact ih
    · rw [if_neg g, show tot (sh l0 l1 n) i = tot (sh l0 l1 n) i + sh l0 l1 n i by unfold sh; omega]
      exact ih

theorem refd_ok (k : Nat) {a2 : Int} (h1 : recB l0 l1 = true) (h2 : 0 ≤ a2) (h3 : a2 < l0.length) : chargeparkref30_Delivered.f (k + 2200) l0 l1 a2 = bids_Delivered.f l0 l1 a2 := by
  rw [deliv_ok h1 h2 h3]
  have h := recT h1
  have hm := h.m2 (by omega)
  have hm1 := h.m1 (by omega)
  obtain ⟨n, rfl⟩ := Int.eq_ofNat_of_zero_le h2
  have hl := h.len (i := n) (by omega)
  unfold chargeparkref30_Delivered.f
  rw [show k + 2200 = (k + 200) + 2000 by omega, valid, h1]
  simp only [Option.bind_some, if_true, Int.toNat_natCast]
  rw [if_neg (by omega), decide_eq_false (by omega), show k + 200 + 2000 = (k + 2199) + 1 by omega, chargeparkref30_Delivered.j0, if_neg (by decide)]
  by_cases c : (cs l1 n 5).length < 5
  · rw [if_pos c, show k + 2199 = (k + 98 + 2100) + 1 by omega, chargeparkref30_Delivered.l0, if_pos (by omega), if_pos (by omega), if_pos (by omega), ref_ok _ ⟨h1, by omega, by omega, by omega, by omega, by omega⟩, Int.toNat_natCast, show (0 : Int).toNat = 0 from rfl, base5_few 0 c]
    rfl
  · rw [if_neg c]
    have hL := refd_loop h1 h n (by omega) c (l0.headD []).length (k + 98 - (l0.headD []).length) 0 (by omega)
    rw [show k + 98 - (l0.headD []).length + 2100 + (l0.headD []).length + 1 = k + 2199 by omega] at hL
    exact hL
theorem refd_bad (k : Nat) {a2 : Int} (h : ¬ (recB l0 l1 = true ∧ 0 ≤ a2 ∧ a2 < l0.length)) : chargeparkref30_Delivered.f (k + 2200) l0 l1 a2 = some (0, 1) := by
  have no (b : Bool) (hb : b = true) : chargeparkref30_Delivered.j0 (k + 2200) l0 l1 a2 b = some (0, 1) := by
    rw [show k + 2200 = (k + 2199) + 1 by omega, chargeparkref30_Delivered.j0, if_pos hb]
  unfold chargeparkref30_Delivered.f
  rw [show k + 2200 = (k + 200) + 2000 by omega, valid, ← show k + 2200 = (k + 200) + 2000 by omega]
  simp only [Option.bind_some]
  by_cases h1 : recB l0 l1 = true
  · rw [if_pos h1]
    by_cases g : a2 < 0
    · rw [if_pos g, no _ rfl]
    · rw [if_neg g, no _ (decide_eq_true (by
        rcases Int.lt_or_le a2 l0.length with q | q
        · exact absurd ⟨h1, by omega, q⟩ h
        · exact q))]
  · rw [if_neg h1, no _ rfl]

theorem usable (k : Nat) (hx : l0.length ≤ 9223372036854775807) : ∃ b, chargeparklaw30_usable.f (k + l0.length + 2001) l0 l1 = some b ∧ (b = true → recB l0 l1 = true ∧ 0 < l0.length) := by
  unfold chargeparklaw30_usable.f
  obtain ⟨b, hb⟩ := few (k + 2000) l0 l1 hx
  rw [show k + l0.length + 2001 = k + 2000 + l0.length + 1 by omega, hb, show k + 2000 + l0.length + 1 = (k + l0.length + 1) + 2000 by omega, valid]
  simp only [Option.bind_some]
  cases b with
  | false => exact ⟨false, rfl, fun h => by cases h⟩
  | true =>
    rw [if_pos rfl]
    by_cases h : recB l0 l1 = true
    · rw [if_pos h]; exact ⟨_, rfl, fun q => ⟨h, by have := of_decide_eq_true q; omega⟩⟩
    · rw [if_neg h]; exact ⟨false, rfl, fun h => by cases h⟩

/-- One number turned. -/
def put (l0 : List (List Int)) (i j : Nat) (v : Int) : List (List Int) := l0.set i ((l0[i]?.getD []).set j v)
theorem put_at (h : RecT l0 l1 m) {i j : Nat} (hi : i < l0.length) (hj : j < m) (v : Int) (a b : Nat) : at_ (put l0 i j v) a b = if a = i ∧ b = j then v else at_ l0 a b := by
  have hl := h.len hi
  rw [rdL] at hl
  unfold at_ put
  by_cases e : a = i
  · subst e
    rw [List.getElem?_set_self hi, Option.getD_some]
    by_cases e2 : b = j
    · subst e2
      rw [if_pos ⟨rfl, rfl⟩, List.getElem?_set_self (by omega)]; rfl
    · rw [if_neg (fun q => e2 q.2), List.getElem?_set_ne (Ne.symm e2)]
  · rw [if_neg (fun q => e q.1), List.getElem?_set_ne (Ne.symm e)]
theorem put_len (i j : Nat) (v : Int) : (put l0 i j v).length = l0.length := by unfold put; rw [List.length_set]
theorem put_row (h : RecT l0 l1 m) {i j : Nat} (hi : i < l0.length) (v : Int) : ∀ d ∈ put l0 i j v, d.length = m := by
  intro d hd
  have hl := h.len hi
  rw [rdL] at hl
  rcases List.mem_or_eq_of_mem_set hd with q | rfl
  · exact h.row d q
  · rw [List.length_set]; exact hl
theorem put_hd (h : RecT l0 l1 m) {i j : Nat} (hi : i < l0.length) (v : Int) : ((put l0 i j v).headD []).length = m :=
  put_row h hi v _ (hd_mem (by rw [put_len]; omega))
theorem put_rec (h : RecT l0 l1 m) {i j : Nat} (hi : i < l0.length) {v : Int} (hv : 0 ≤ v ∧ v ≤ 1000) : RecT (put l0 i j v) l1 m where
  few := by rw [put_len]; exact h.few
  same := by rw [put_len]; exact h.same
  hd := put_hd h hi v
  row := put_row h hi v
  bnd := by
    intro d hd x hx
    rcases List.mem_or_eq_of_mem_set hd with q | rfl
    · exact h.bnd d q x hx
    · rcases List.mem_or_eq_of_mem_set hx with q | rfl
      · rw [get_of _ hi] at q; exact h.bnd _ (List.getElem_mem hi) x q
      · exact hv
  m1 := fun q => h.m1 (by rw [put_len] at q; exact q)
  m2 := fun q => h.m2 (by rw [put_len] at q; exact q)
theorem base5_congr {L L' : List (List Int)} {B : List Bool} {n j : Nat} (h : ∀ i ∈ cs B n 5, at_ L i j = at_ L' i j) : base5 L B n j = base5 L' B n j := by
  unfold base5; rw [List.map_congr_left h]
theorem rd_put (l0 : List (List Int)) (i j : Nat) (v : Int) : l0.set (i : Int).toNat ((rd_L1 l0 (i : Int)).set (j : Int).toNat v) = put l0 i j v := by
  rw [Int.toNat_natCast, Int.toNat_natCast, rdL]; rfl
end Go.Proofs.Ytakmioomcnnfjaa.Plain
