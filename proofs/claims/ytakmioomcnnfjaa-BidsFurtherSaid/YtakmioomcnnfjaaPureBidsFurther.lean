/- A day with a bid, put in somewhere, moves nothing; nor do two days that count and change places, said of the printed functions. No conditions. -/
import Derived.Test.YtakmioomcnnfjaaPAllx10
import Derived.Test.YtakmioomcnnfjaaBidsMore
namespace Go.Proofs.Ytakmioomcnnfjaa.Pure
open Go.RowKit Go.Proofs.Ytakmioomcnnfjaa.PAll Go.Proofs.YtakmioomcnnfjaaW.PrintWords Go.Proofs.YtakmioomcnnfjaaW.PrintLast Go.Proofs.YtakmioomcnnfjaaW.PrintMore Go.Proofs.Ytakmioomcnnfjaa.Plain
open Go.Proofs.Ytakmioomcnnfjaa.Hand (recB)

/-- One more, at place kk. -/
def ins {α : Type} (l : List α) (kk : Nat) (d : α) : List α := l.take kk ++ d :: l.drop kk
theorem ins_len {α : Type} {l : List α} {kk : Nat} (d : α) (h : kk ≤ l.length) : (ins l kk d).length = l.length + 1 := by unfold ins; simp; omega
theorem ins_lt {α : Type} {l : List α} {kk : Nat} (d : α) (h : kk ≤ l.length) {i : Nat} (hi : i < kk) : (ins l kk d)[i]? = l[i]? := by
  unfold ins
  rw [List.getElem?_append_left (by rw [List.length_take]; omega), List.getElem?_take_of_lt hi]
theorem ins_at {α : Type} {l : List α} {kk : Nat} (d : α) (h : kk ≤ l.length) : (ins l kk d)[kk]? = some d := by
  unfold ins
  rw [List.getElem?_append_right (by rw [List.length_take]; omega), List.length_take, show kk - min kk l.length = 0 by omega]; rfl
theorem ins_gt {α : Type} {l : List α} {kk : Nat} (d : α) (h : kk ≤ l.length) {i : Nat} (hi : kk ≤ i) : (ins l kk d)[i + 1]? = l[i]? := by
  unfold ins
  rw [List.getElem?_append_right (by rw [List.length_take]; omega), List.length_take, show i + 1 - min kk l.length = (i - kk) + 1 by omega, List.getElem?_cons_succ, List.getElem?_drop, show kk + (i - kk) = i by omega]
theorem ins_mem {α : Type} {l : List α} {kk : Nat} {d x : α} (h : x ∈ ins l kk d) : x = d ∨ x ∈ l := by
  unfold ins at h
  rcases List.mem_append.1 h with h | h
  · exact .inr (List.mem_of_mem_take h)
  · rcases List.mem_cons.1 h with h | h
    · exact .inl h
    · exact .inr (List.mem_of_mem_drop h)

def up1 (kk i : Nat) : Nat := if i < kk then i else i + 1

theorem cs_same {B B' : List Bool} : ∀ n c, (∀ i, i < n → B'[i]? = B[i]?) → cs B' n c = cs B n c
  | 0, _, _ => rfl
  | n + 1, c, h => by
    unfold cs
    rw [h n (by omega), cs_same n c (fun i hi => h i (by omega)), cs_same n (c - 1) (fun i hi => h i (by omega))]
theorem cs_ins {B : List Bool} {kk : Nat} (h : kk ≤ B.length) : ∀ n c, kk ≤ n → cs (ins B kk true) (n + 1) c = (cs B n c).map (up1 kk) := by
  have base : ∀ c, cs (ins B kk true) (kk + 1) c = (cs B kk c).map (up1 kk) := by
    intro c
    have e : (cs B kk c).map (up1 kk) = cs B kk c := by
      have : ∀ i ∈ cs B kk c, up1 kk i = id i := fun i hi => by unfold up1; rw [if_pos (cs_lt B kk c i hi)]; rfl
      rw [List.map_congr_left this, List.map_id]
    rw [e, ← cs_same (B' := ins B kk true) kk c (fun i hi => ins_lt true h hi)]
    conv => lhs; unfold cs
    by_cases hc : c = 0
    · rw [if_pos hc, hc]
      cases kk with
      | zero => rfl
      | succ m => conv => rhs; unfold cs
                  rw [if_pos rfl]
    · rw [if_neg hc, ins_at true h, if_pos (by rfl)]
  intro n
  induction n with
  | zero => intro c hn; obtain rfl : kk = 0 := by omega
            exact base c
  | succ n ih =>
    intro c hn
    by_cases e : kk = n + 1
    · subst e; exact base c
    · have hkn : kk ≤ n := by omega
      conv => lhs; unfold cs
      conv => rhs; unfold cs
      by_cases hc : c = 0
      · rw [if_pos hc, if_pos hc]; rfl
      rw [if_neg hc, if_neg hc, ins_gt true h hkn]
      by_cases hb : B[n]?.getD false = true
      · rw [if_pos hb, if_pos hb, ih c hkn]
      · rw [if_neg hb, if_neg hb, ih (c - 1) hkn, List.map_cons, show up1 kk n = n + 1 by unfold up1; rw [if_neg (by omega)]]

theorem at_ins {l0 : List (List Int)} {kk : Nat} (d : List Int) (h : kk ≤ l0.length) (i j : Nat) : at_ (ins l0 kk d) (up1 kk i) j = at_ l0 i j := by
  unfold at_ up1
  by_cases c : i < kk
  · rw [if_pos c, ins_lt d h c]
  · rw [if_neg c, ins_gt d h (by omega)]

theorem base5_ins {l0 : List (List Int)} {l1 : List Bool} {kk : Nat} (d : List Int) (h : kk ≤ l0.length) (hs : l1.length = l0.length) (n j : Nat) (hn : kk ≤ n) : base5 (ins l0 kk d) (ins l1 kk true) (n + 1) j = base5 l0 l1 n j := by
  unfold base5
  rw [cs_ins (by omega) n 5 hn, List.map_map]
  congr 1
  apply List.map_congr_left
  intro i _
  exact at_ins d h i j

theorem sh_ins {l0 : List (List Int)} {l1 : List Bool} {kk : Nat} (d : List Int) (h : kk ≤ l0.length) (hs : l1.length = l0.length) (n j : Nat) (hn : kk ≤ n) : sh (ins l0 kk d) (ins l1 kk true) (n + 1) j = sh l0 l1 n j := by
  unfold sh
  rw [base5_ins d h hs n j hn, show n + 1 = up1 kk n by unfold up1; rw [if_neg (by omega)], at_ins d h n j]

theorem rec_ins {l0 : List (List Int)} {l1 : List Bool} {m kk : Nat} (h : RecT l0 l1 m) (hk : kk ≤ l0.length) (h0 : 0 < l0.length) (h60 : l0.length < 60) {v : Int} (hv : 0 ≤ v ∧ v ≤ 1000) : RecT (ins l0 kk (List.replicate m v)) (ins l1 kk true) m := by
  have hrow : ∀ d ∈ ins l0 kk (List.replicate m v), d.length = m := fun d hd => (ins_mem hd).elim (fun e => by rw [e, List.length_replicate]) (h.row d)
  have hl := ins_len (List.replicate m v) hk
  exact ⟨by omega, by rw [hl, ins_len true (by rw [h.same]; exact hk), h.same], hrow _ (hd_mem (by omega)), hrow, fun d hd x hx => (ins_mem hd).elim (fun e => by rw [e] at hx; rw [List.eq_of_mem_replicate hx]; exact hv) (fun q => h.bnd d q x hx), fun _ => h.m1 h0, fun _ => h.m2 h0⟩

theorem rec_of_mem {l0 L : List (List Int)} {l1 : List Bool} {m : Nat} (h : RecT l0 l1 m) (h0 : 0 < l0.length) (hl : L.length = l0.length) (hm : ∀ d ∈ L, d ∈ l0) : RecT L l1 m :=
  ⟨by rw [hl]; exact h.few, by rw [hl]; exact h.same, h.row _ (hm _ (hd_mem (by omega))), fun d hd => h.row d (hm d hd), fun d hd => h.bnd d (hm d hd), fun _ => h.m1 h0, fun _ => h.m2 h0⟩

/-- Two days that count change places. -/
theorem sm_swap {l0 : List (List Int)} {l1 : List Bool} {n s i j : Nat} (hn : n ≤ l0.length) (hi : i ∈ cs l1 n 5) (hj : j ∈ cs l1 n 5) : sm ((l0.set i (l0[j]?.getD [])).set j (l0[i]?.getD [])) l1 n s = sm l0 l1 n s := by
  have ii := cs_lt _ _ _ _ hi
  have jj := cs_lt _ _ _ _ hj
  have hat : ∀ a, at_ ((l0.set i (l0[j]?.getD [])).set j (l0[i]?.getD [])) a s = if a = j then at_ l0 i s else if a = i then at_ l0 j s else at_ l0 a s := by
    intro a
    unfold at_
    by_cases ea : a = j
    · subst ea; rw [if_pos rfl, List.getElem?_set_self (by rw [List.length_set]; omega), Option.getD_some]
    · rw [if_neg ea, List.getElem?_set_ne (Ne.symm ea)]
      by_cases eb : a = i
      · subst eb; rw [if_pos rfl, List.getElem?_set_self (by omega), Option.getD_some]
      · rw [if_neg eb, List.getElem?_set_ne (Ne.symm eb)]
  unfold sm
  rw [cs_tot l1 (fun a => at_ l0 a s), cs_tot l1 (fun a => at_ ((l0.set i (l0[j]?.getD [])).set j (l0[i]?.getD [])) a s)]
  by_cases e : i = j
  · subst e
    apply tot_congr
    intro a _
    try dsimp only
    rw [hat a]
    by_cases ea : a = i
    · subst ea; rw [if_pos rfl]
    · rw [if_neg ea, if_neg ea]
  · have h1 := tot_one (f := fun a => if a ∈ cs l1 n 5 then at_ l0 a s else 0) (g := fun a => if a = i then at_ l0 j s else if a ∈ cs l1 n 5 then at_ l0 a s else 0) i (at_ l0 j s - at_ l0 i s) n (fun a _ ha => by rw [if_neg ha]) ii (by rw [if_pos rfl, if_pos hi]; omega)
    have h2 := tot_one (f := fun a => if a = i then at_ l0 j s else if a ∈ cs l1 n 5 then at_ l0 a s else 0) (g := fun a => if a ∈ cs l1 n 5 then at_ ((l0.set i (l0[j]?.getD [])).set j (l0[i]?.getD [])) a s else 0) j (at_ l0 i s - at_ l0 j s) n (fun a _ ha => by
      try dsimp only
      rw [hat a, if_neg ha]
      by_cases ea : a = i
      · subst ea; rw [if_pos rfl, if_pos rfl, if_pos hi]
      · rw [if_neg ea, if_neg ea]) jj (by rw [hat j, if_pos rfl, if_pos hj, if_neg (Ne.symm e), if_pos hj]; omega)
    omega

theorem base5_swap {l0 : List (List Int)} {l1 : List Bool} {n s i j : Nat} (hn : n ≤ l0.length) (hi : i ∈ cs l1 n 5) (hj : j ∈ cs l1 n 5) : base5 ((l0.set i (l0[j]?.getD [])).set j (l0[i]?.getD [])) l1 n s = base5 l0 l1 n s := by
  by_cases c : (cs l1 n 5).length < 5
  · rw [base5_few s c, base5_few s c]
  · rw [base5_all s c, base5_all s c, sm_swap hn hi hj]

variable {l0 : List (List Int)} {l1 : List Bool} {m : Nat}

theorem fur_end (hv : recB l0 l1 = true) (h : RecT l0 l1 m) (n s : Nat) (hn : n < l0.length) (hs : s < m) {a4 a5 : Int} (h4 : 0 ≤ a4) (h5 : 0 ≤ a5) (k : Nat) (hk : 2500 ≤ k) :
    chargeparklaw30_BidsFurther.j3 k l0 l1 (n : Int) (s : Int) a4 a5 true (base5 l0 l1 n s).1 (base5 l0 l1 n s).2 = some true := by
  obtain ⟨k, rfl⟩ : ∃ k', k = (k' + 2000) + 1 := ⟨k - 2001, by omega⟩
  have hf := h.few
  have hsame := h.same
  have hh := h.hd
  have e1 : 0 ≤ a4 % (l0.length : Int) := Int.emod_nonneg _ (by omega)
  have e2 : a4 % (l0.length : Int) < (l0.length : Int) := Int.emod_lt_of_pos _ (by omega)
  have e3 : 0 ≤ a5 % (l0.length : Int) := Int.emod_nonneg _ (by omega)
  have e4 : a5 % (l0.length : Int) < (l0.length : Int) := Int.emod_lt_of_pos _ (by omega)
  obtain ⟨i, hi⟩ := Int.eq_ofNat_of_zero_le e1
  obtain ⟨j, hj⟩ := Int.eq_ofNat_of_zero_le e3
  have hB : bids_Baseline.f (k + 2000) l0 l1 (n : Int) (s : Int) = some (base5 l0 l1 n s) := by
    rw [base_ok _ ⟨hv, by omega, by omega, by omega, by omega, by omega⟩, Int.toNat_natCast, Int.toNat_natCast]
  have hC : ∀ d, d < l0.length → chargeparklaw30_counts.f (k + 2000) l1 (d : Int) (n : Int) = some (decide (d ∈ cs l1 n 5)) := fun d _ => by
    rw [show k + 2000 = (k + 1938) + 62 by omega, counts _ _ _ _ (by omega) (by omega)]
  rw [chargeparklaw30_BidsFurther.j3, show k + 2000 = (k + 1939) + 61 by omega, copy _ h, ← show k + 2000 = (k + 1939) + 61 by omega]
  simp only [Option.bind_some]
  rw [if_neg (by omega), Int.tmod_eq_emod_of_nonneg h4, Int.tmod_eq_emod_of_nonneg h5, hi, hj, hC i (by omega)]
  simp only [Option.bind_some]
  by_cases c1 : i ∈ cs l1 n 5
  · rw [if_pos (decide_eq_true c1), hC j (by omega)]
    simp only [Option.bind_some]
    by_cases c2 : j ∈ cs l1 n 5
    · rw [if_pos (decide_eq_true c2), if_pos (by omega), if_pos (by omega), if_pos (by omega), if_pos (by omega), rdL, rdL, Int.toNat_natCast, Int.toNat_natCast]
      have hr : RecT ((l0.set i (l0[j]?.getD [])).set j (l0[i]?.getD [])) l1 m := rec_of_mem h (by omega) (by simp) (fun d hd => by
        rcases List.mem_or_eq_of_mem_set hd with q | rfl
        · rcases List.mem_or_eq_of_mem_set q with q | rfl
          · exact q
          · rw [get_of _ (by omega)]; exact List.getElem_mem _
        · rw [get_of _ (by omega)]; exact List.getElem_mem _)
      have hrh := hr.hd
      have hlen : ((l0.set i (l0[j]?.getD [])).set j (l0[i]?.getD [])).length = l0.length := by simp
      rw [base_ok _ ⟨hr.back, by omega, by omega, by omega, by omega, by omega⟩, Int.toNat_natCast, Int.toNat_natCast, base5_swap (by omega) c1 c2]
      simp
    · rw [if_neg (by rw [decide_eq_false c2]; decide), hB]
      simp
  · rw [if_neg (by rw [decide_eq_false c1]; decide), hB]
    simp

/-- What is laid up to day i. -/
def upTo {α : Type} (l : List α) (kk : Nat) (d : α) (i : Nat) : List α := if i ≤ kk then l.take i else l.take kk ++ d :: (l.take i).drop kk
theorem upTo_zero {α : Type} (l : List α) (kk : Nat) (d : α) : upTo l kk d 0 = [] := by unfold upTo; rw [if_pos (by omega)]; rfl
theorem upTo_succ {α : Type} (l : List α) (kk : Nat) (d : α) {i : Nat} (e : i ≠ kk) (hi : i < l.length) : upTo l kk d i ++ [l[i]] = upTo l kk d (i + 1) := by
  unfold upTo
  by_cases c : i ≤ kk
  · rw [if_pos c, if_pos (by omega), List.take_add_one, List.getElem?_eq_getElem hi]; rfl
  · rw [if_neg c, if_neg (by omega), List.take_add_one (i := i), List.getElem?_eq_getElem hi, Option.toList_some, List.drop_append_of_le_length (by rw [List.length_take]; omega)]
    simp
theorem upTo_at {α : Type} (l : List α) (kk : Nat) (d : α) (hi : kk < l.length) : (upTo l kk d kk ++ [d]) ++ [l[kk]] = upTo l kk d (kk + 1) := by
  unfold upTo
  rw [if_pos (Nat.le_refl _), if_neg (by omega), List.take_add_one, List.getElem?_eq_getElem hi, Option.toList_some, List.drop_append_of_le_length (by rw [List.length_take]; omega), List.drop_of_length_le (by rw [List.length_take]; omega)]
  simp
theorem upTo_len {α : Type} (l : List α) (kk : Nat) (d : α) (i : Nat) : (upTo l kk d i).length ≤ l.length + 1 := by
  unfold upTo
  split
  · rw [List.length_take]; omega
  · simp; omega
theorem upTo_all {α : Type} (l : List α) (kk : Nat) (d : α) (h : kk < l.length) : upTo l kk d l.length = ins l kk d := by
  unfold upTo ins; rw [if_neg (by omega), List.take_of_length_le (Nat.le_refl _)]

theorem fur_mid (hv : recB l0 l1 = true) (h : RecT l0 l1 m) (n s kk : Nat) (h60 : l0.length < 60) (hn : n < l0.length) (hs : s < m) (hkk : kk ≤ n) {a4 a5 : Int} (h4 : 0 ≤ a4) (h5 : 0 ≤ a5 ∧ a5 ≤ 1000) (k : Nat) (hk : 2600 ≤ k) :
    chargeparklaw30_BidsFurther.l0 k l0 l1 (n : Int) (s : Int) a4 a5 true (kk : Int) (ins l0 kk (List.replicate m a5)) (ins l1 kk true) ((l0.length + 1 : Nat) : Int) = some true := by
  obtain ⟨k, rfl⟩ : ∃ k', k = (k' + 2000) + 1 := ⟨k - 2001, by omega⟩
  have hh := h.hd
  have hsame := h.same
  have hr := rec_ins h (show kk ≤ l0.length by omega) (by omega) h60 h5
  have hrh := hr.hd
  have hl := ins_len (l := l0) (kk := kk) (List.replicate m a5) (by omega)
  have hd1 := deliv_ok (a2 := (n : Int)) hv (by omega) (by omega)
  have hd2 := deliv_ok (a2 := ((n + 1 : Nat) : Int)) hr.back (by omega) (by omega)
  rw [Int.toNat_natCast, hh] at hd1
  rw [Int.toNat_natCast, hrh, cs_ins (by omega) n 5 hkk, List.length_map, tot_congr (g := sh l0 l1 n) m (fun i _ => sh_ins _ (by omega) hsame n i hkk)] at hd2
  rw [chargeparklaw30_BidsFurther.l0, if_neg (by omega), w_nat n (by omega), base_ok _ ⟨hv, by omega, by omega, by omega, by omega, by omega⟩, base_ok _ ⟨hr.back, by omega, by omega, by omega, by omega, by omega⟩, hd1, hd2, Int.toNat_natCast, Int.toNat_natCast, Int.toNat_natCast, base5_ins _ (by omega) hsame n s hkk]
  simp only [Option.bind_some]
  rw [if_pos trivial, if_pos trivial, if_pos trivial, if_pos trivial, beq_self_eq_true, fur_end hv h n s hn hs h4 h5.1 _ (by omega)]

theorem fur_row (h : RecT l0 l1 m) (h60 : l0.length < 60) (n s kk : Nat) (hn : n < l0.length) (hkk : kk ≤ n) {a4 a5 : Int} (C : Nat) (hcont : ∀ k, C ≤ k → chargeparklaw30_BidsFurther.l0 k l0 l1 (n : Int) (s : Int) a4 a5 true (kk : Int) (upTo l0 kk (List.replicate m a5) (kk + 1)) (upTo l1 kk true (kk + 1)) ((kk + 1 : Nat) : Int) = some true) :
    ∀ q k j, j + q = m → C + q + 1 ≤ k → chargeparklaw30_BidsFurther.l1 k l0 l1 (n : Int) (s : Int) a4 a5 true (kk : Int) (upTo l0 kk (List.replicate m a5) kk) (upTo l1 kk true kk) (kk : Int) (List.replicate j a5) (j : Int) = some true
  | 0, k, j, hj, hk => by
    obtain ⟨k, rfl⟩ : ∃ k', k = k' + 1 := ⟨k - 1, by omega⟩
    have hh := h.hd
    have hsame := h.same
    have u1 := upTo_len l0 kk (List.replicate m a5) kk
    have u2 := upTo_len l1 kk true kk
    have hm := h.m2 (by omega)
    obtain rfl : j = m := by omega
    have hkl : kk < l0.length := by omega
    have hkl1 : kk < l1.length := by omega
    rw [chargeparklaw30_BidsFurther.l1, if_pos (by omega), rdL0, if_neg (by omega), if_pos (by omega)]
    simp only [Option.bind_some]
    rw [if_pos (by omega), if_pos (by omega), if_pos (by omega), if_pos (by rw [List.length_append, List.length_singleton]; omega), if_pos (by omega), if_pos (by rw [List.length_append, List.length_singleton]; omega), w_nat kk (by omega), rdL, rdB, get_of _ hkl, get_of _ hkl1, upTo_at l0 kk _ hkl, upTo_at l1 kk _ hkl1]
    exact hcont k (by omega)
  | q + 1, k, j, hj, hk => by
    obtain ⟨k, rfl⟩ : ∃ k', k = k' + 1 := ⟨k - 1, by omega⟩
    have hh := h.hd
    have hm := h.m2 (by omega)
    rw [chargeparklaw30_BidsFurther.l1, if_pos (by omega), rdL0, if_pos (by omega), if_pos (by rw [List.length_replicate]; omega), w_nat j (by omega), ← List.replicate_succ']
    exact fur_row h h60 n s kk hn hkk C hcont q k (j + 1) (by omega) (by omega)

theorem fur_loop (hv : recB l0 l1 = true) (h : RecT l0 l1 m) (n s kk : Nat) (h60 : l0.length < 60) (hn : n < l0.length) (hs : s < m) (hkk : kk ≤ n) {a4 a5 : Int} (h4 : 0 ≤ a4) (h5 : 0 ≤ a5 ∧ a5 ≤ 1000) : ∀ (q k i : Nat), i + q = l0.length → 2602 + 30 * q ≤ k →
    chargeparklaw30_BidsFurther.l0 k l0 l1 (n : Int) (s : Int) a4 a5 true (kk : Int) (upTo l0 kk (List.replicate m a5) i) (upTo l1 kk true i) (i : Int) = some true
  | 0, k, i, hi, hk => by
    obtain ⟨k, rfl⟩ : ∃ k', k = k' + 1 := ⟨k - 1, by omega⟩
    have hsame := h.same
    obtain rfl : i = l0.length := by omega
    rw [upTo_all _ _ _ (by omega), show upTo l1 kk true l0.length = ins l1 kk true by rw [← hsame, upTo_all _ _ _ (by omega)]]
    rw [chargeparklaw30_BidsFurther.l0, if_pos (by omega), if_neg (by omega), if_neg (by omega), w_nat _ (by omega)]
    exact fur_mid hv h n s kk h60 hn hs hkk h4 h5 k (by omega)
  | q + 1, k, i, hi, hk => by
    obtain ⟨k, rfl⟩ : ∃ k', k = k' + 1 := ⟨k - 1, by omega⟩
    have hsame := h.same
    have hm := h.m2 (by omega)
    have u1 := upTo_len l0 kk (List.replicate m a5) i
    have u2 := upTo_len l1 kk true i
    have hkl : i < l0.length := by omega
    have hkl1 : i < l1.length := by omega
    by_cases e : i = kk
    · subst e
      rw [chargeparklaw30_BidsFurther.l0, if_pos (by omega), if_pos rfl]
      have hr := fur_row h h60 n s i hn hkk (a4 := a4) (a5 := a5) (2602 + 30 * q) (fun k hk => fur_loop hv h n s i h60 hn hs hkk h4 h5 q k (i + 1) (by omega) hk) m k 0 (by omega) (by omega)
      exact hr
    · rw [chargeparklaw30_BidsFurther.l0, if_pos (by omega), if_neg (by omega), if_pos (by omega), if_pos (by omega), if_pos (by omega), if_pos (by omega), if_pos (by omega), w_nat i (by omega), rdL, rdB, get_of _ hkl, get_of _ hkl1, upTo_succ l0 kk _ e hkl, upTo_succ l1 kk _ e hkl1]
      exact fur_loop hv h n s kk h60 hn hs hkk h4 h5 q k (i + 1) (by omega) (by omega)

theorem BidsFurther (l0 : List (List Int)) (l1 : List Bool) (a2 a3 a4 a5 : Int) (y0 : l0.length ≤ 9223372036854775807) (_ : (Lit.int .i64 a2).wf = true) (_ : (Lit.int .i64 a3).wf = true) (_ : (Lit.int .i64 a4).wf = true) (_ : (Lit.int .i64 a5).wf = true) : ∃ k, chargeparklaw30_BidsFurther.f k l0 l1 a2 a3 a4 a5 = some true := by
  refine ⟨8000 + l0.length + 2001, ?_⟩
  have no (b : Bool) (hb : b = true) : chargeparklaw30_BidsFurther.j0 (8000 + l0.length + 2001) l0 l1 a2 a3 a4 a5 true b = some true := by
    rw [show 8000 + l0.length + 2001 = (10000 + l0.length) + 1 by omega, chargeparklaw30_BidsFurther.j0, if_pos hb]
  obtain ⟨u, hu, hu1⟩ := usable (l0 := l0) (l1 := l1) 8000 y0
  unfold chargeparklaw30_BidsFurther.f chargeparklaw30_head_c.f
  rw [hu]
  simp only [Option.bind_some]
  cases u with
  | false => rw [if_neg (by decide), no _ rfl]
  | true =>
    obtain ⟨h1, h2⟩ := hu1 rfl
    have h := recT h1
    rw [if_pos rfl]
    by_cases g0 : (l0.length : Int) ≥ 60
    · rw [if_pos g0, no _ rfl]
    rw [if_neg g0]
    by_cases g2 : a2 < 0
    · rw [if_pos g2, no _ rfl]
    rw [if_neg g2]
    by_cases g3 : a2 ≥ (l0.length : Int)
    · rw [if_pos g3, no _ rfl]
    rw [if_neg g3]
    by_cases g4 : a3 < 0
    · rw [if_pos g4, no _ rfl]
    rw [if_neg g4, if_pos (by omega), rdL0]
    by_cases g5 : a3 ≥ ((l0.headD []).length : Int)
    · rw [if_pos g5, no _ rfl]
    rw [if_neg g5]
    by_cases g6 : a4 < 0
    · rw [if_pos g6, no _ rfl]
    rw [if_neg g6]
    by_cases g7 : a5 < 0
    · rw [if_pos g7, no _ rfl]
    rw [if_neg g7]
    by_cases g8 : a5 > 1000
    · rw [no _ (decide_eq_true g8)]
    rw [decide_eq_false g8]
    obtain ⟨n, rfl⟩ := Int.eq_ofNat_of_zero_le (show 0 ≤ a2 by omega)
    obtain ⟨s, rfl⟩ := Int.eq_ofNat_of_zero_le (show 0 ≤ a3 by omega)
    have e1 : 0 ≤ a4 % ((n + 1 : Nat) : Int) := Int.emod_nonneg _ (by omega)
    have e2 : a4 % ((n + 1 : Nat) : Int) < ((n + 1 : Nat) : Int) := Int.emod_lt_of_pos _ (by omega)
    obtain ⟨kk, hkk⟩ := Int.eq_ofNat_of_zero_le e1
    rw [show 8000 + l0.length + 2001 = (l0.length + 10000) + 1 by omega, chargeparklaw30_BidsFurther.j0, if_neg (by decide), w_nat n (by omega), if_neg (by omega), Int.tmod_eq_emod_of_nonneg (by omega), hkk]
    have hL := fur_loop h1 h n s kk (by omega) (by omega) (by omega) (by omega) (a4 := a4) (a5 := a5) (by omega) ⟨by omega, by omega⟩ l0.length (l0.length + 10000) 0 (by omega) (by omega)
    rw [upTo_zero, upTo_zero] at hL
    exact hL

/-- Rows of rows that came in are read wherever the blocks at hand are kept. -/
theorem rows_shared {w : World} {A : Option Addr} {l : List (List Int)} {c : Nat} (h : Kd.C (Kd.slice 3 (Kd.int .i64)) w A l.length l) (hc : l.length ≤ c) {e base : Nat} : Kd.V (Kd.slice 3 (Kd.int .i64)) e w base (fun k_ => (fun _ => True) k_) (.slice A l.length c) l := by
  refine Kd.V_mk hc (fun W' hW => ?_)
  have hs : w.heap.size ≤ W'.heap.size := by
    rcases Nat.eq_zero_or_pos w.heap.size with q | q
    · omega
    · have := heap_lt (hW (w.heap.size - 1) trivial (by omega)) (by omega); omega
  have hb : Below w.heap.size w { w with heap := W'.heap } := ⟨rfl, rfl, rfl, hs, fun i hi => hW i trivial hi⟩
  have q : Kd.C (Kd.slice 3 (Kd.int .i64)) ({ w with heap := W'.heap } : World) A l.length l := Kd.C_below h hb
  exact q
end Go.Proofs.Ytakmioomcnnfjaa.Pure
