/- What bids and its reference return, said of the printed functions: the days that count, the mean of their bids, the delivery. No conditions. -/
import Derived.Test.YtakmioomcnnfjaaPAllx2
import Derived.Test.YtakmioomcnnfjaaPAllx3
import Derived.Test.YtakmioomcnnfjaaPAllx5
namespace Go.Proofs.Ytakmioomcnnfjaa.Plain
open Go.RowKit Go.Proofs.Ytakmioomcnnfjaa.PAll Go.Proofs.YtakmioomcnnfjaaW.PrintWords Go.Proofs.YtakmioomcnnfjaaW.PrintLast Go.Proofs.YtakmioomcnnfjaaW.PrintMore
open Go.Proofs.Ytakmioomcnnfjaa.Hand (recB baseF delivF baseV delivV down)

theorem w_id (a : Int) (h : -9223372036854775808 ≤ a) (h' : a ≤ 9223372036854775807) : wrap64 a = a := by unfold wrap64; omega
theorem w_nat (i : Nat) (h : i + 1 ≤ 9223372036854775807) : wrap64 ((i : Int) + 1) = ((i + 1 : Nat) : Int) := by rw [w_id _ (by omega) (by omega)]; rfl

theorem rdL (l : List (List Int)) (i : Nat) : rd_L1 l (i : Int) = l[i]?.getD [] := by unfold rd_L1; rw [Int.toNat_natCast, List.getD_eq_getElem?_getD]
theorem rdL0 (l : List (List Int)) : rd_L1 l 0 = l.headD [] := by unfold rd_L1; cases l with | nil => rfl | cons a l => rfl
theorem rdI (l : List Int) (i : Nat) : rd l (i : Int) = l[i]?.getD 0 := by unfold rd; rw [Int.toNat_natCast, List.getD_eq_getElem?_getD]
theorem rdB (l : List Bool) (i : Nat) : rdOf false l (i : Int) = l[i]?.getD false := by unfold rdOf; rw [Int.toNat_natCast, List.getD_eq_getElem?_getD]
theorem get_of {α : Type} {l : List α} {i : Nat} (d : α) (h : i < l.length) : l[i]?.getD d = l[i] := by rw [List.getElem?_eq_getElem h]; rfl

/-- What a valid record is. -/
structure RecT (l0 : List (List Int)) (l1 : List Bool) (m : Nat) : Prop where
  few : l0.length ≤ 60
  same : l1.length = l0.length
  hd : (l0.headD []).length = m
  row : ∀ d ∈ l0, d.length = m
  bnd : ∀ d ∈ l0, ∀ v ∈ d, 0 ≤ v ∧ v ≤ 1000
  m1 : 0 < l0.length → 1 ≤ m
  m2 : 0 < l0.length → m ≤ 24

theorem hd_mem {l : List (List Int)} (h : 0 < l.length) : l.headD [] ∈ l := by cases l with | nil => exact absurd h (by simp) | cons a l => exact List.mem_cons_self ..

theorem recT {l0 : List (List Int)} {l1 : List Bool} (h : recB l0 l1 = true) : RecT l0 l1 (l0.headD []).length := by
  have h := of_decide_eq_true h
  exact ⟨h.1, h.2.1, rfl, fun d hd => (h.2.2 d hd).1.2.2, fun d hd => (h.2.2 d hd).2, fun q => (h.2.2 _ (hd_mem q)).1.1, fun q => (h.2.2 _ (hd_mem q)).1.2.1⟩

theorem RecT.back {l0 : List (List Int)} {l1 : List Bool} {m : Nat} (h : RecT l0 l1 m) : recB l0 l1 = true :=
  decide_eq_true ⟨h.few, h.same, fun d hd => by
    have hp := List.length_pos_of_mem hd
    exact ⟨⟨by rw [h.row d hd]; exact h.m1 hp, by rw [h.row d hd]; exact h.m2 hp, by rw [h.row d hd, h.hd]⟩, h.bnd d hd⟩⟩

/-- The number at a day and slot. -/
def at_ (L : List (List Int)) (i j : Nat) : Int := (L[i]?.getD [])[j]?.getD 0

theorem RecT.at {l0 : List (List Int)} {l1 : List Bool} {m : Nat} (h : RecT l0 l1 m) (i j : Nat) : 0 ≤ at_ l0 i j ∧ at_ l0 i j ≤ 1000 := by
  unfold at_
  cases hi : l0[i]? with
  | none => simp
  | some d =>
    rw [Option.getD_some]
    cases hj : d[j]? with
    | none => simp
    | some v => exact h.bnd d (List.mem_of_getElem? hi) v (List.mem_of_getElem? hj)

theorem RecT.len {l0 : List (List Int)} {l1 : List Bool} {m : Nat} (h : RecT l0 l1 m) {i : Nat} (hi : i < l0.length) : (rd_L1 l0 (i : Int)).length = m := by
  rw [rdL, get_of _ hi]; exact h.row _ (List.getElem_mem hi)

theorem rd_at (l0 : List (List Int)) (i j : Nat) : rd (rd_L1 l0 (i : Int)) (j : Int) = at_ l0 i j := by rw [rdL, rdI]; rfl

/-- bids.isRecord. -/
theorem isRec (k : Nat) (l0 : List (List Int)) (l1 : List Bool) : bids_isRecord.f (k + 2000) l0 l1 = some (recB l0 l1) := by
  unfold bids_isRecord.f recB
  by_cases c : (l0.length : Int) > 60
  · rw [if_pos c, show k + 2000 = (k + 1999) + 1 by omega, bids_isRecord.j0, if_pos rfl, decide_eq_false (by omega)]
  rw [if_neg c, show k + 2000 = (k + 1999) + 1 by omega, bids_isRecord.j0]
  by_cases e : l1.length = l0.length
  · rw [if_neg (by simp [e])]
    have h := isRecord_rows l0 (by omega) l0.length (k + 1998 - 27 * l0.length) 0 (by omega)
    rw [show k + 1998 - 27 * l0.length + 27 * l0.length + 1 = k + 1999 by omega, List.drop_zero, show ((0 : Nat) : Int) = 0 from rfl] at h
    rw [h]
    congr 1
    exact decide_eq_decide.2 ⟨fun hh => ⟨by omega, e, hh⟩, fun hh => hh.2.2⟩
  · rw [if_pos (bne_iff_ne.2 (fun q => e (by omega))), decide_eq_false (fun hh => e hh.2.1)]

/-- The reference's valid: a row. -/
theorem valid_row (x0 : List (List Int)) (i : Nat) (hi : i < x0.length) (hl : (rd_L1 x0 (i : Int)).length ≤ 24) : ∀ (n k j : Nat), j + n = (rd_L1 x0 (i : Int)).length →
    chargeparkref30_Valid.l1 (k + n + 1) x0 (i : Int) (j : Int) = if (∀ v ∈ (rd_L1 x0 (i : Int)).drop j, 0 ≤ v ∧ v ≤ 1000) then chargeparkref30_Valid.l0 k x0 (wrap64 ((i : Int) + 1)) else some false
  | 0, k, j, h => by
    rw [show k + 0 + 1 = k + 1 by omega, chargeparkref30_Valid.l1, if_pos (by omega), if_pos (by omega), if_neg (by omega), if_pos (by rw [List.drop_of_length_le (by omega)]; intro v hv; cases hv)]
  | n + 1, k, j, h => by
    have hj : j < (rd_L1 x0 (i : Int)).length := by omega
    have hr : rd (rd_L1 x0 (i : Int)) (j : Int) = (rd_L1 x0 (i : Int))[j] := by rw [rdI, get_of _ hj]
    have hd : (rd_L1 x0 (i : Int)).drop j = (rd_L1 x0 (i : Int))[j] :: (rd_L1 x0 (i : Int)).drop (j + 1) := List.drop_eq_getElem_cons hj
    rw [show k + (n + 1) + 1 = (k + n + 1) + 1 by omega, chargeparkref30_Valid.l1, if_pos (by omega), if_pos (by omega), if_pos (by omega), if_pos (by omega), hr]
    by_cases c : 0 ≤ (rd_L1 x0 (i : Int))[j] ∧ (rd_L1 x0 (i : Int))[j] ≤ 1000
    · rw [if_neg (by omega), if_neg (by omega), w_nat j (by omega), valid_row x0 i hi hl n k (j + 1) (by omega)]
      by_cases q : ∀ v ∈ (rd_L1 x0 (i : Int)).drop (j + 1), 0 ≤ v ∧ v ≤ 1000
      · rw [if_pos q, if_pos (by rw [hd]; exact fun v hv => (List.mem_cons.1 hv).elim (fun e => e ▸ c) (q v))]
      · rw [if_neg q, if_neg (by rw [hd]; exact fun hh => q (fun v hv => hh v (List.mem_cons_of_mem _ hv)))]
    · rw [if_neg (show ¬ ∀ v ∈ (rd_L1 x0 (i : Int)).drop j, 0 ≤ v ∧ v ≤ 1000 by rw [hd]; exact fun hh => c (hh _ (List.mem_cons_self ..)))]
      by_cases c1 : (rd_L1 x0 (i : Int))[j] < 0
      · rw [if_pos c1]
      · rw [if_neg c1, if_pos (by omega)]

theorem valid_rows (x0 : List (List Int)) (hx : x0.length ≤ 60) : ∀ (n k i : Nat), i + n = x0.length →
    chargeparkref30_Valid.l0 (k + 27 * n + 1) x0 (i : Int) = some (decide (∀ d ∈ x0.drop i, (1 ≤ d.length ∧ d.length ≤ 24 ∧ d.length = (x0.headD []).length) ∧ ∀ v ∈ d, 0 ≤ v ∧ v ≤ 1000))
  | 0, k, i, h => by
    rw [show k + 27 * 0 + 1 = k + 1 by omega, chargeparkref30_Valid.l0, if_neg (by omega), decide_eq_true (by rw [List.drop_of_length_le (by omega)]; intro v hv; cases hv)]
  | n + 1, k, i, h => by
    have hi : i < x0.length := by omega
    have hd : x0.drop i = rd_L1 x0 (i : Int) :: x0.drop (i + 1) := by rw [rdL, get_of _ hi]; exact List.drop_eq_getElem_cons hi
    rw [show k + 27 * (n + 1) + 1 = (k + 27 * n + 26 + 1) + 1 by omega, chargeparkref30_Valid.l0, if_pos (by omega), if_pos (by omega), rdL0]
    have no (hh : ¬ ((1 ≤ (rd_L1 x0 (i : Int)).length ∧ (rd_L1 x0 (i : Int)).length ≤ 24 ∧ (rd_L1 x0 (i : Int)).length = (x0.headD []).length) ∧ ∀ v ∈ rd_L1 x0 (i : Int), 0 ≤ v ∧ v ≤ 1000)) :
        some (decide (∀ d ∈ x0.drop i, (1 ≤ d.length ∧ d.length ≤ 24 ∧ d.length = (x0.headD []).length) ∧ ∀ v ∈ d, 0 ≤ v ∧ v ≤ 1000)) = some false := by
      rw [decide_eq_false (fun q => hh (q _ (by rw [hd]; exact List.mem_cons_self ..)))]
    by_cases c1 : ((rd_L1 x0 (i : Int)).length : Int) < 1
    · rw [if_pos c1, chargeparkref30_Valid.j2, if_pos rfl, no (by omega)]
    by_cases c2 : ((rd_L1 x0 (i : Int)).length : Int) > 24
    · rw [if_neg c1, if_pos c2, chargeparkref30_Valid.j2, if_pos rfl, no (by omega)]
    rw [if_neg c1, if_neg c2, if_pos (by omega), chargeparkref30_Valid.j2]
    by_cases e : (rd_L1 x0 (i : Int)).length = (x0.headD []).length
    · rw [if_neg (by simp [e]), show k + 27 * n + 26 = (k + 27 * n + 1 + (24 - (rd_L1 x0 (i : Int)).length)) + (rd_L1 x0 (i : Int)).length + 1 by omega]
      have hrow := valid_row x0 i hi (by omega) (rd_L1 x0 (i : Int)).length (k + 27 * n + 1 + (24 - (rd_L1 x0 (i : Int)).length)) 0 (by omega)
      rw [show ((0 : Nat) : Int) = 0 from rfl] at hrow
      rw [hrow, List.drop_zero, w_nat i (by omega), show k + 27 * n + 1 + (24 - (rd_L1 x0 (i : Int)).length) = (k + (24 - (rd_L1 x0 (i : Int)).length)) + 27 * n + 1 by omega, valid_rows x0 hx n (k + (24 - (rd_L1 x0 (i : Int)).length)) (i + 1) (by omega)]
      by_cases q : ∀ v ∈ rd_L1 x0 (i : Int), 0 ≤ v ∧ v ≤ 1000
      · rw [if_pos q]
        congr 1
        exact decide_eq_decide.2 ⟨fun hh d hm => by rw [hd] at hm; exact (List.mem_cons.1 hm).elim (fun e' => e' ▸ ⟨⟨by omega, by omega, e⟩, q⟩) (hh d), fun hh d hm => hh d (by rw [hd]; exact List.mem_cons_of_mem _ hm)⟩
      · rw [if_neg q, no (fun hh => q hh.2)]
    · rw [if_pos (bne_iff_ne.2 (fun q => e (by omega))), no (fun hh => e hh.1.2.2)]

/-- The reference's valid. -/
theorem valid (k : Nat) (l0 : List (List Int)) (l1 : List Bool) : chargeparkref30_Valid.f (k + 2000) l0 l1 = some (recB l0 l1) := by
  unfold chargeparkref30_Valid.f recB
  by_cases c : (l0.length : Int) > 60
  · rw [if_pos c, show k + 2000 = (k + 1999) + 1 by omega, chargeparkref30_Valid.j0, if_pos rfl, decide_eq_false (by omega)]
  rw [if_neg c, show k + 2000 = (k + 1999) + 1 by omega, chargeparkref30_Valid.j0]
  by_cases e : l1.length = l0.length
  · rw [if_neg (by simp [e])]
    have h := valid_rows l0 (by omega) l0.length (k + 1998 - 27 * l0.length) 0 (by omega)
    rw [show k + 1998 - 27 * l0.length + 27 * l0.length + 1 = k + 1999 by omega, List.drop_zero, show ((0 : Nat) : Int) = 0 from rfl] at h
    rw [h]
    congr 1
    exact decide_eq_decide.2 ⟨fun hh => ⟨by omega, e, hh⟩, fun hh => hh.2.2⟩
  · rw [if_pos (bne_iff_ne.2 (fun q => e (by omega))), decide_eq_false (fun hh => e hh.2.1)]

/-- The first c days before n that count, newest first. -/
def cs (B : List Bool) : Nat → Nat → List Nat
  | 0, _ => []
  | n + 1, c => if c = 0 then [] else if B[n]?.getD false = true then cs B n c else n :: cs B n (c - 1)

theorem cs_lt (B : List Bool) : ∀ n c i, i ∈ cs B n c → i < n
  | 0, c, i, h => by simp [cs] at h
  | n + 1, c, i, h => by
    unfold cs at h
    split at h
    · simp at h
    · split at h
      · have := cs_lt B n c i h; omega
      · rcases List.mem_cons.1 h with rfl | h
        · omega
        · have := cs_lt B n _ i h; omega
theorem cs_len (B : List Bool) : ∀ n c, (cs B n c).length ≤ c
  | 0, c => by simp [cs]
  | n + 1, c => by
    unfold cs
    split
    · simp
    · split
      · exact cs_len B n c
      · have := cs_len B n (c - 1); simp; omega

theorem down_cs (L : List (List Int)) (B : List Bool) : ∀ n c, n ≤ L.length → down L B n c = (cs B n c).map fun i => L[i]?.getD []
  | 0, c, _ => by simp [down, cs]
  | n + 1, c, h => by
    have hn : n < L.length := by omega
    unfold down cs
    by_cases hc : c = 0
    · rw [if_pos hc, if_pos hc]; rfl
    rw [if_neg hc, if_neg hc]
    by_cases hb : B[n]?.getD false = true
    · rw [if_pos hb, if_pos hb, down_cs L B n c (by omega)]
    · rw [if_neg hb, if_neg hb, List.getElem?_eq_getElem hn]
      simp only [List.map_cons]
      rw [down_cs L B n (c - 1) (by omega), get_of _ hn]

/-- What a day's slot is reckoned by. -/
def base5 (L : List (List Int)) (B : List Bool) (n j : Nat) : Int × Int := baseV ((cs B n 5).map fun i => at_ L i j)
theorem base5_eq (L : List (List Int)) (B : List Bool) (n j : Nat) (h : n ≤ L.length) : baseV ((down L B n 5).map (·[j]?.getD 0)) = base5 L B n j := by
  rw [down_cs L B n 5 h, List.map_map]; rfl

/-- What is asked of a call. -/
def okB (l0 : List (List Int)) (l1 : List Bool) (a2 a3 : Int) : Prop := recB l0 l1 = true ∧ 0 < l0.length ∧ 0 ≤ a2 ∧ a2 ≤ l0.length ∧ 0 ≤ a3 ∧ a3 < (l0.headD []).length

theorem in_f (a b c : Int) : bids_in.f a b c = some (decide (b ≤ a ∧ a ≤ c)) := by
  unfold bids_in.f
  split
  · congr 1; exact decide_eq_decide.2 (by omega)
  · rw [decide_eq_false (by omega)]

theorem base_ok (k : Nat) {l0 : List (List Int)} {l1 : List Bool} {a2 a3 : Int} (h : okB l0 l1 a2 a3) : bids_Baseline.f (k + 2000) l0 l1 a2 a3 = some (base5 l0 l1 a2.toNat a3.toNat) := by
  obtain ⟨h1, h2, h3, h4, h5, h6⟩ := h
  have hr := recT h1
  have hm := hr.m2 h2
  unfold bids_Baseline.f
  rw [isRec, h1]
  simp only [Option.bind_some, if_true]
  rw [if_neg (by omega), in_f, decide_eq_true ⟨h3, h4⟩]
  simp only [Option.bind_some, if_true]
  rw [if_pos (by omega), in_f, rdL0, w_id _ (by omega) (by omega), decide_eq_true ⟨h5, by omega⟩]
  simp only [Option.bind_some, if_true]
  unfold bids_baseline.f baseF
  rw [if_pos ⟨h1, h3, h4, h5, h6⟩, base5_eq _ _ _ _ (by omega)]
  rfl

theorem base_bad (k : Nat) {l0 : List (List Int)} {l1 : List Bool} {a2 a3 : Int} (h : ¬ okB l0 l1 a2 a3) : bids_Baseline.f (k + 2000) l0 l1 a2 a3 = some (0, 1) := by
  unfold bids_Baseline.f
  rw [isRec]
  simp only [Option.bind_some]
  by_cases h1 : recB l0 l1 = true
  · rw [if_pos h1]
    by_cases h2 : (l0.length : Int) = 0
    · rw [if_pos h2]
    have hm := (recT h1).m2 (by omega)
    rw [if_neg h2, in_f]
    simp only [Option.bind_some]
    by_cases h3 : 0 ≤ a2 ∧ a2 ≤ (l0.length : Int)
    · rw [decide_eq_true h3, if_pos rfl, if_pos (by omega), in_f, rdL0, w_id _ (by omega) (by omega), decide_eq_false (fun q => h ⟨h1, by omega, h3.1, h3.2, q.1, by omega⟩)]
      rfl
    · rw [decide_eq_false h3, if_neg (by decide)]
  · rw [if_neg h1]

/-- The days that count, oldest first. -/
def al (B : List Bool) : Nat → List Int
  | 0 => []
  | n + 1 => if B[n]?.getD false = true then al B n else al B n ++ [(n : Int)]
theorem al_len (B : List Bool) : ∀ n, (al B n).length ≤ n
  | 0 => by simp [al]
  | n + 1 => by
    unfold al
    have := al_len B n
    split
    · omega
    · simp; omega
theorem al_cs (B : List Bool) : ∀ n c, (al B n).reverse.take c = (cs B n c).map fun i : Nat => (i : Int)
  | 0, c => by simp [al, cs]
  | n + 1, c => by
    unfold al cs
    by_cases hc : c = 0
    · subst hc; simp
    rw [if_neg hc]
    by_cases hb : B[n]?.getD false = true
    · rw [if_pos hb, if_pos hb, al_cs B n c]
    · rw [if_neg hb, if_neg hb, List.reverse_append, List.map_cons]
      obtain ⟨d, rfl⟩ : ∃ d, c = d + 1 := ⟨c - 1, by omega⟩
      rw [show d + 1 - 1 = d by omega, ← al_cs B n d]
      simp
/-- The last five. -/
def last5 (B : List Bool) (n : Nat) : List Int := (al B n).drop ((al B n).length - 5)
theorem last5_cs (B : List Bool) (n : Nat) : (last5 B n).reverse = (cs B n 5).map fun i : Nat => (i : Int) := by
  rw [← al_cs]; unfold last5; rw [List.take_reverse]

theorem counting_loop (B : List Bool) (n : Nat) (hn : n ≤ B.length) (hb : B.length ≤ 60) : ∀ m k i, i + m = n → chargeparkref30_Counting.l0 (k + m + 1) B (n : Int) (al B i) (i : Int) = some (last5 B n)
  | 0, k, i, h => by
    obtain rfl : i = n := by omega
    have hl := al_len B i
    have hm : mx 0 (wrap64 (((al B i).length : Int) - 5)) = (((al B i).length - 5 : Nat) : Int) := by
      rw [w_id _ (by omega) (by omega)]; unfold mx; split <;> omega
    rw [show k + 0 + 1 = k + 1 by omega, chargeparkref30_Counting.l0, if_neg (by omega), hm, if_pos (by omega), if_pos (by omega), Int.toNat_natCast]
    rfl
  | m + 1, k, i, h => by
    have hl := al_len B i
    have ih := counting_loop B n hn hb m k (i + 1) (by omega)
    rw [show k + (m + 1) + 1 = (k + m + 1) + 1 by omega, chargeparkref30_Counting.l0, if_pos (by omega), if_pos (by omega), if_pos (by omega), rdB, w_nat i (by omega)]
    unfold al at ih
    by_cases hb : B[i]?.getD false = true
    · rw [if_pos hb] at ih ⊢; exact ih
    · rw [if_neg hb] at ih ⊢; rw [if_pos (by omega)]; exact ih
theorem counting (k : Nat) (B : List Bool) (n : Nat) (hn : n ≤ B.length) (hb : B.length ≤ 60) : chargeparkref30_Counting.f (k + 61) B (n : Int) = some (last5 B n) := by
  have h := counting_loop B n hn hb n (k + 60 - n) 0 (by omega)
  rw [show k + 60 - n + n + 1 = k + 61 by omega] at h
  exact h

/-- Sums, from the left. -/
def tot (f : Nat → Int) : Nat → Int
  | 0 => 0
  | n + 1 => tot f n + f n
theorem tot_succ (f : Nat → Int) (n : Nat) : tot f (n + 1) = tot f n + f n := rfl
theorem tot_bnd {f : Nat → Int} {c : Int} : ∀ n, (∀ i, i < n → 0 ≤ f i ∧ f i ≤ c) → 0 ≤ tot f n ∧ tot f n ≤ c * n
  | 0, _ => by simp [tot]
  | n + 1, h => by
    have a := tot_bnd n (fun i hi => h i (by omega))
    have b := h n (by omega)
    unfold tot
    rw [show c * ((n + 1 : Nat) : Int) = c * n + c by rw [show ((n + 1 : Nat) : Int) = (n : Int) + 1 from rfl, Int.mul_add, Int.mul_one]]
    omega
theorem tot_range (f : Nat → Int) : ∀ n, ((List.range n).map f).sum = tot f n
  | 0 => rfl
  | n + 1 => by rw [List.range_succ, List.map_append, List.sum_append, tot_range f n]; simp [tot]
theorem tot_congr {f g : Nat → Int} : ∀ n, (∀ i, i < n → f i = g i) → tot f n = tot g n
  | 0, _ => rfl
  | n + 1, h => by unfold tot; rw [tot_congr n (fun i hi => h i (by omega)), h n (by omega)]
theorem tot_le {f g : Nat → Int} : ∀ n, (∀ i, i < n → f i ≤ g i) → tot f n ≤ tot g n
  | 0, _ => Int.le_refl _
  | n + 1, h => by have a := tot_le n (fun i hi => h i (by omega)); have b := h n (by omega); unfold tot; omega
theorem tot_one {f g : Nat → Int} (i : Nat) (e : Int) : ∀ n, (∀ j, j < n → j ≠ i → g j = f j) → i < n → g i = f i + e → tot g n = tot f n + e
  | 0, _, h, _ => by omega
  | n + 1, h, hi, he => by
    unfold tot
    by_cases q : i = n
    · subst q; rw [tot_congr i (fun j hj => h j (by omega) (by omega)), he]; omega
    · rw [tot_one i e n (fun j hj hne => h j (by omega) hne) (by omega) he, h n (by omega) (by omega)]; omega

/-- A sum over the days that count. -/
theorem cs_tot (B : List Bool) (g : Nat → Int) : ∀ n c, ((cs B n c).map g).sum = tot (fun i => if i ∈ cs B n c then g i else 0) n
  | 0, c => by simp [cs, tot]
  | n + 1, c => by
    unfold cs tot
    by_cases hc : c = 0
    · simp only [if_pos hc]
      rw [tot_congr (g := fun _ => 0) n (fun i _ => by simp)]
      have : tot (fun _ => 0) n = 0 := by have := tot_bnd (f := fun _ => 0) (c := 0) n (fun _ _ => by omega); omega
      simp [this]
    simp only [if_neg hc]
    by_cases hb : B[n]?.getD false = true
    · simp only [if_pos hb]
      rw [cs_tot B g n c, if_neg (fun h => by have := cs_lt B n c n h; omega)]; omega
    · simp only [if_neg hb]
      rw [List.map_cons, List.sum_cons, cs_tot B g n (c - 1), if_pos (List.mem_cons_self ..)]
      rw [tot_congr (g := fun i => if i ∈ n :: cs B n (c - 1) then g i else 0) n (fun i hi => by
        by_cases q : i ∈ cs B n (c - 1)
        · rw [if_pos q, if_pos (List.mem_cons_of_mem _ q)]
        · rw [if_neg q, if_neg (fun h => (List.mem_cons.1 h).elim (fun e => by omega) q)])]
      omega

/-- How many days between i and n count. -/
def cnt (B : List Bool) (i : Nat) (j : Nat) : Int := if i < j ∧ B[j]?.getD false = false then 1 else 0
theorem cnt01 (B : List Bool) (i j : Nat) : 0 ≤ cnt B i j ∧ cnt B i j ≤ 1 := by unfold cnt; split <;> omega
theorem cnt_no {B : List Bool} {i j : Nat} (h : B[j]?.getD false = true) : cnt B i j = 0 := if_neg (by rw [h]; simp)
theorem cnt_yes {B : List Bool} {i j : Nat} (hi : i < j) (h : ¬ B[j]?.getD false = true) : cnt B i j = 1 := if_pos ⟨hi, by simpa using h⟩
theorem cnt_bnd (B : List Bool) (i n : Nat) : 0 ≤ tot (cnt B i) n ∧ tot (cnt B i) n ≤ 1 * n := tot_bnd n (fun j _ => cnt01 B i j)
theorem cnt_zero (B : List Bool) (i : Nat) : ∀ n, n ≤ i + 1 → tot (cnt B i) n = 0
  | 0, _ => rfl
  | n + 1, h => by unfold tot; rw [cnt_zero B i n (by omega)]; unfold cnt; rw [if_neg (by omega)]; rfl
theorem mem_cs (B : List Bool) (i : Nat) (hi : B[i]?.getD false = false) : ∀ n (c : Nat), i < n → (i ∈ cs B n c ↔ tot (cnt B i) n < c)
  | 0, c, h => by omega
  | n + 1, c, h => by
    have hb0 := cnt_bnd B i n
    unfold cs tot
    by_cases hc : c = 0
    · rw [if_pos hc]; subst hc
      constructor
      · intro h; cases h
      · intro h; exfalso; have := cnt01 B i n; omega
    rw [if_neg hc]
    by_cases e : i = n
    · subst e
      rw [if_neg (by rw [hi]; decide), cnt_zero B i i (by omega), show cnt B i i = 0 from if_neg (by omega)]
      exact ⟨fun _ => by omega, fun _ => List.mem_cons_self ..⟩
    · by_cases hb : B[n]?.getD false = true
      · rw [if_pos hb, mem_cs B i hi n c (by omega)]
        rw [cnt_no hb]
        constructor <;> intro h <;> omega
      · rw [if_neg hb]
        rw [List.mem_cons, mem_cs B i hi n (c - 1) (by omega), cnt_yes (by omega) hb]
        constructor
        · rintro (h | h) <;> omega
        · intro h; right; omega
theorem cs_not (B : List Bool) (i : Nat) (hi : B[i]?.getD false = true) : ∀ n c, ¬ i ∈ cs B n c
  | 0, c => by simp [cs]
  | n + 1, c => by
    unfold cs
    split
    · simp
    · split
      · exact cs_not B i hi n c
      · rename_i q
        intro h
        rcases List.mem_cons.1 h with rfl | h
        · exact q hi
        · exact cs_not B i hi n _ h

theorem counts_loop (B : List Bool) (i n : Nat) (hn : n ≤ B.length) (hb : B.length ≤ 60) : ∀ m k j, j + m = n → i < j → chargeparklaw30_counts.l0 (k + m + 1) B (n : Int) (tot (cnt B i) j) (j : Int) = some (decide (tot (cnt B i) n < 5))
  | 0, k, j, h, hj => by
    obtain rfl : j = n := by omega
    rw [show k + 0 + 1 = k + 1 by omega, chargeparklaw30_counts.l0, if_neg (by omega)]
  | m + 1, k, j, h, hj => by
    have hc := cnt_bnd B i j
    have ih := counts_loop B i n hn hb m k (j + 1) (by omega) (by omega)
    rw [show k + (m + 1) + 1 = (k + m + 1) + 1 by omega, chargeparklaw30_counts.l0, if_pos (by omega), if_pos (by omega), if_pos (by omega), rdB, w_nat j (by omega)]
    rw [tot_succ] at ih
    by_cases hb : B[j]?.getD false = true
    · rw [cnt_no hb, Int.add_zero] at ih
      rw [if_pos hb]; exact ih
    · rw [cnt_yes hj hb] at ih
      rw [if_neg hb, w_id _ (by omega) (by omega)]; exact ih
theorem counts (k : Nat) (B : List Bool) (i n : Nat) (hn : n ≤ B.length) (hb : B.length ≤ 60) : chargeparklaw30_counts.f (k + 62) B (i : Int) (n : Int) = some (decide (i ∈ cs B n 5)) := by
  unfold chargeparklaw30_counts.f
  by_cases h : i < n
  · rw [if_neg (by omega), if_pos (by omega), if_pos (by omega), rdB, show k + 62 = (k + 61) + 1 by omega, chargeparklaw30_counts.j0]
    by_cases q : B[i]?.getD false = true
    · rw [if_pos q, decide_eq_false (cs_not B i q n 5)]
    · have q' : B[i]?.getD false = false := by simpa using q
      rw [if_neg q, w_nat i (by omega)]
      have h1 := counts_loop B i n hn hb (n - (i + 1)) (k + 60 - (n - (i + 1))) (i + 1) (by omega) (by omega)
      rw [cnt_zero B i (i + 1) (by omega), show k + 60 - (n - (i + 1)) + (n - (i + 1)) + 1 = k + 61 by omega] at h1
      rw [h1]
      congr 1
      exact decide_eq_decide.2 (mem_cs B i q' n 5 h).symm
  · rw [if_pos (by omega), show k + 62 = (k + 61) + 1 by omega, chargeparklaw30_counts.j0, if_pos rfl, decide_eq_false (fun q => h (cs_lt B n 5 i q))]

theorem copy_loop (x0 : List (List Int)) (hx : x0.length ≤ 60) (hl : ∀ d ∈ x0, d.length ≤ 24) : ∀ m k i, i + m = x0.length → chargeparkref30_Copy.l0 (k + m + 1) x0 (x0.take i) (i : Int) = some x0
  | 0, k, i, h => by rw [show k + 0 + 1 = k + 1 by omega, chargeparkref30_Copy.l0, if_neg (by omega), List.take_of_length_le (by omega)]
  | m + 1, k, i, h => by
    have hi : i < x0.length := by omega
    have ih := copy_loop x0 hx hl m k (i + 1) (by omega)
    have hr : rd_L1 x0 (i : Int) = x0[i] := by rw [rdL, get_of _ hi]
    have h24 := hl x0[i] (List.getElem_mem hi)
    have h60 : (x0.take i).length ≤ 60 := by rw [List.length_take]; omega
    rw [show k + (m + 1) + 1 = (k + m + 1) + 1 by omega, chargeparkref30_Copy.l0, if_pos (by omega), if_pos (by omega), hr, if_pos (by simp; omega), if_pos (by omega), w_nat i (by omega), List.nil_append]
    rw [List.take_add_one, List.getElem?_eq_getElem hi] at ih
    exact ih
theorem copy (k : Nat) {l0 : List (List Int)} {l1 : List Bool} {m : Nat} (h : RecT l0 l1 m) : chargeparkref30_Copy.f (k + 61) l0 = some l0 := by
  have hf := h.few
  have h1 := copy_loop l0 hf (fun d hd => by rw [h.row d hd]; exact h.m2 (List.length_pos_of_mem hd)) l0.length (k + 60 - l0.length) 0 (by omega)
  rw [show k + 60 - l0.length + l0.length + 1 = k + 61 by omega] at h1
  exact h1

theorem few_loop (x0 : List (List Int)) (x1 : List Bool) (hx : x0.length ≤ 9223372036854775807) : ∀ m k i, i + m = x0.length → ∃ b, chargeparkref30_Few.l0 (k + m + 1) x0 x1 (i : Int) = some b
  | 0, k, i, h => by
    rw [show k + 0 + 1 = k + 1 by omega, chargeparkref30_Few.l0, if_neg (by omega)]
    split <;> exact ⟨_, rfl⟩
  | m + 1, k, i, h => by
    obtain ⟨b, ih⟩ := few_loop x0 x1 hx m k (i + 1) (by omega)
    rw [show k + (m + 1) + 1 = (k + m + 1) + 1 by omega, chargeparkref30_Few.l0, if_pos (by omega), if_pos (by omega), w_nat i (by omega)]
    split
    · exact ⟨_, rfl⟩
    · exact ⟨b, ih⟩
theorem few (k : Nat) (l0 : List (List Int)) (l1 : List Bool) (hx : l0.length ≤ 9223372036854775807) : ∃ b, chargeparkref30_Few.f (k + l0.length + 1) l0 l1 = some b := few_loop l0 l1 hx l0.length k 0 (by omega)
end Go.Proofs.Ytakmioomcnnfjaa.Plain
