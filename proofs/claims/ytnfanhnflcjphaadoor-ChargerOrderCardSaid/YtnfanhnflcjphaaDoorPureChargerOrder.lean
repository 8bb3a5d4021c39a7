/- A charger is on just when the last events of its phase are plug, lock, test and close, said of the printed functions. No conditions. -/
import Derived.Test.YtnfanhnflcjphaaDoorPAllx11
import Derived.Test.YtnfanhnflcjphaaDoorChargerPlain
namespace Go.Proofs.YtnfanhnflcjphaaDoor.Pure
open Go.RowKit Go.Proofs.YtnfanhnflcjphaaDoor.PAll Go.Proofs.YtnfanhnflcjphaaDoorW.PrintWords Go.Proofs.YtnfanhnflcjphaaDoorW.PrintLast Go.Proofs.YtnfanhnflcjphaaDoorW.PrintMore Go.Proofs.YtnfanhnflcjphaaDoor.Plain

/-- How far the order of the events has come, by the phase. -/
def dn (ph : Int) : Int := if ph = 5 then 0 else ph
/-- What the law makes of it at an event. -/
def nextD (d k n ph' : Int) : Int :=
  if k = 1 then 1 else if k = 3 then (if d = 1 then 2 else d) else if k = 4 then (if d = 2 then (if n = 1 then 3 else 0) else 0)
  else if k = 5 then (if d = 3 then 4 else d) else if k = 6 then (if ph' = 1 then 1 else 0) else if k = 2 then (if ph' = 1 then 1 else 0) else if k = 9 then (if ph' = 1 then 1 else 0) else d

theorem stepW_ph (T am lf : Int) (we : Bool) (k n m : Int) : (Hand.stepW T am lf we k n m).1 = if (k = 6 ∧ (n = 1 ∨ n = 2)) ∨ (k = 4 ∧ n = 0) then 5 else if we = true then 5 else T := by
  unfold Hand.stepW
  by_cases k7 : k = 7
  · rw [if_pos k7, if_neg (show ¬ ((k = 6 ∧ (n = 1 ∨ n = 2)) ∨ (k = 4 ∧ n = 0)) by omega)]
  rw [if_neg k7]
  by_cases k8 : k = 8
  · rw [if_pos k8, if_neg (show ¬ ((k = 6 ∧ (n = 1 ∨ n = 2)) ∨ (k = 4 ∧ n = 0)) by omega)]; split <;> rfl
  rw [if_neg k8]
  by_cases k9 : k = 9
  · rw [if_pos k9, if_neg (show ¬ ((k = 6 ∧ (n = 1 ∨ n = 2)) ∨ (k = 4 ∧ n = 0)) by omega)]
  rw [if_neg k9]
  by_cases k6 : k = 6
  · rw [if_pos k6]
    by_cases n1 : n = 1
    · rw [if_pos n1, if_pos (by omega)]
    rw [if_neg n1]
    by_cases n2 : n = 2
    · rw [if_pos n2, if_pos (by omega)]
    · rw [if_neg n2, if_neg (show ¬ ((k = 6 ∧ (n = 1 ∨ n = 2)) ∨ (k = 4 ∧ n = 0)) by omega)]
  rw [if_neg k6]
  by_cases k4 : k = 4
  · rw [if_pos k4]
    by_cases n0 : n = 0
    · rw [if_pos n0, if_pos (by omega)]
    · rw [if_neg n0, if_neg (show ¬ ((k = 6 ∧ (n = 1 ∨ n = 2)) ∨ (k = 4 ∧ n = 0)) by omega)]
  rw [if_neg k4, if_neg (show ¬ ((k = 6 ∧ (n = 1 ∨ n = 2)) ∨ (k = 4 ∧ n = 0)) by omega)]

theorem next_dn {c4 ph am lf : Int} {we : Bool} (o : Ok c4 ph am lf we) {k n m ph' am' lf' : Int} {we' : Bool} (hk : 1 ≤ k ∧ k ≤ 9) (hf : fB c4 k n m = true) (ht : Hand.stepT k ph ≠ -1)
    (hw : (ph', am', lf', we') = Hand.stepW (Hand.stepT k ph) am lf we k n m) : nextD (dn ph) k n ph' = dn ph' := by
  have hf := of_decide_eq_true hf
  obtain ⟨p0, p1, l0, l1, a0, a1, z, f⟩ := o
  have hph : ph' = (Hand.stepW (Hand.stepT k ph) am lf we k n m).1 := by rw [← hw]
  rw [stepW_ph] at hph
  clear hw z
  have hwe : ph' = if (k = 6 ∧ (n = 1 ∨ n = 2)) ∨ (k = 4 ∧ n = 0) then 5 else if ph = 5 ∧ we = true then 5 else Hand.stepT k ph := by
    rw [hph]
    cases we
    · simp
    · simp [f rfl]
  clear hph f
  unfold Hand.stepT at ht hwe
  unfold nextD dn
  have hb : (ph = 5 ∧ we = true) ∨ ¬ (ph = 5 ∧ we = true) := Classical.em _
  rcases hb with hb | hb
  · rw [if_pos hb] at hwe
    have h5 := hb.1
    clear hb
    subst h5
    rcases kinds hk with rfl | rfl | rfl | rfl | rfl | rfl | rfl | rfl | rfl
    all_goals (simp at ht hwe hf ⊢; try (subst hwe; simp))
  · rw [if_neg hb] at hwe
    clear hb
    rcases kinds hk with rfl | rfl | rfl | rfl | rfl | rfl | rfl | rfl | rfl
    all_goals simp at ht hwe hf ⊢
    all_goals (repeat' split at hwe)
    all_goals (repeat' split)
    all_goals first | omega | (simp_all; done) | (simp_all; omega)

theorem order_loop (c0 : ByteArray) (c1 c2 c3 c4 c5 c6 c7 : Int) (l : List S27) (hl : l.length ≤ 100) (d : Nat) : ∀ (k : Nat) (i ph am lf : Int) (we : Bool),
    sB c2 c3 c4 c5 c6 ph am lf we = true → (l.length : Int) - i ≤ d → 3 * d < k → 0 ≤ i → i ≤ 100 →
    chargeparklaw12_ChargerOrder.l0 k l true (dn ph) i c0 c1 c2 c3 c4 c5 c6 c7 ph am lf we = some true := by
  induction d with
  | zero =>
    intro k i ph am lf we h hd hk hi hi2
    obtain ⟨k, rfl⟩ : ∃ m, k = m + 1 := ⟨k - 1, by omega⟩
    rw [chargeparklaw12_ChargerOrder.l0, if_neg (by omega)]
  | succ d ih =>
    intro k i ph am lf we h hd hk hi hi2
    obtain ⟨k, rfl⟩ : ∃ m, k = m + 1 + 1 + 1 := ⟨k - 3, by omega⟩
    rw [chargeparklaw12_ChargerOrder.l0]
    by_cases hc : i < (l.length : Int)
    · rw [if_pos hc, if_pos hi, step_eq, w_id (i + 1) (by omega) (by omega)]
      generalize rd_T27 l i = e
      obtain ⟨kd, n, m⟩ := e
      simp only [Option.bind_some]
      -- after an accepted event, the rest
      have rest : ∀ (k' : Nat) (d' ph' am' lf' : Int) (we' : Bool), k < k' → sB c2 c3 c4 c5 c6 ph' am' lf' we' = true → d' = dn ph' →
          chargeparklaw12_ChargerOrder.j3 k' l true d' i c0 c1 c2 c3 c4 c5 c6 c7 ph' am' lf' we' = some true := by
        intro k' d' ph' am' lf' we' hk' h' hd'
        obtain ⟨k', rfl⟩ : ∃ m, k' = m + 1 := ⟨k' - 1, by omega⟩
        rw [chargeparklaw12_ChargerOrder.j3, if_pos rfl, w_id (i + 1) (by omega) (by omega)]
        have hb : ((ph' == 4) == (d' == 4)) = true := by
          rw [hd']; unfold dn
          obtain ⟨_, o'⟩ := sB_true h'
          by_cases q : ph' = 5
          · rw [if_pos q, q]; decide
          · rw [if_neg q]; simp
        rw [hb, hd']
        exact ih k' (i + 1) ph' am' lf' we' h' (by omega) (by omega) (by omega) (by omega)
      rcases stp_cases h kd n m with (⟨e, _⟩ | ⟨e, _⟩ | ⟨e, _⟩) | ⟨ph', am', lf', we', e, hv, hk9, hf, ht, hw⟩
      · rw [e, if_neg (by decide)]; exact ih (k + 1 + 1) (i + 1) ph am lf we h (by omega) (by omega) (by omega) (by omega)
      · rw [e, if_neg (by decide)]; exact ih (k + 1 + 1) (i + 1) ph am lf we h (by omega) (by omega) (by omega) (by omega)
      · rw [e, if_neg (by decide)]; exact ih (k + 1 + 1) (i + 1) ph am lf we h (by omega) (by omega) (by omega) (by omega)
      · rw [e]
        simp only [if_true]
        obtain ⟨_, o⟩ := sB_true h
        have nd := next_dn o hk9 hf ht hw
        unfold nextD at nd
        have back : ∀ (b : Bool), b = true → (if ph' = 1 then (1 : Int) else 0) = dn ph' → chargeparklaw12_ChargerOrder.j2 (k + 1 + 1) l true (dn ph) i b c0 c1 c2 c3 c4 c5 c6 c7 ph' am' lf' we' = some true := by
          intro b hb hq
          rw [chargeparklaw12_ChargerOrder.j2, if_pos hb]
          by_cases q : ph' = 1
          · rw [if_pos q]; rw [if_pos q] at hq; exact rest _ _ _ _ _ _ (by omega) hv hq
          · rw [if_neg q]; rw [if_neg q] at hq; exact rest _ _ _ _ _ _ (by omega) hv hq
        by_cases k1 : kd = 1
        · rw [if_pos k1]; rw [if_pos k1] at nd; exact rest _ _ _ _ _ _ (by omega) hv nd
        rw [if_neg k1]; rw [if_neg k1] at nd
        by_cases k3 : kd = 3
        · rw [if_pos k3]; rw [if_pos k3] at nd
          by_cases q : dn ph = 1
          · rw [if_pos q]; rw [if_pos q] at nd; exact rest _ _ _ _ _ _ (by omega) hv nd
          · rw [if_neg q]; rw [if_neg q] at nd; exact rest _ _ _ _ _ _ (by omega) hv nd
        rw [if_neg k3]; rw [if_neg k3] at nd
        by_cases k4 : kd = 4
        · rw [if_pos k4]; rw [if_pos k4] at nd
          by_cases q : dn ph = 2
          · rw [if_pos q]; rw [if_pos q] at nd
            by_cases q' : n = 1
            · rw [if_pos q']; rw [if_pos q'] at nd; exact rest _ _ _ _ _ _ (by omega) hv nd
            · rw [if_neg q']; rw [if_neg q'] at nd; exact rest _ _ _ _ _ _ (by omega) hv nd
          · rw [if_neg q]; rw [if_neg q] at nd; exact rest _ _ _ _ _ _ (by omega) hv nd
        rw [if_neg k4]; rw [if_neg k4] at nd
        by_cases k5 : kd = 5
        · rw [if_pos k5]; rw [if_pos k5] at nd
          by_cases q : dn ph = 3
          · rw [if_pos q]; rw [if_pos q] at nd; exact rest _ _ _ _ _ _ (by omega) hv nd
          · rw [if_neg q]; rw [if_neg q] at nd; exact rest _ _ _ _ _ _ (by omega) hv nd
        rw [if_neg k5]; rw [if_neg k5] at nd
        by_cases k6 : kd = 6
        · rw [if_pos k6]; rw [if_pos k6] at nd; exact back _ (by rw [k6]; rfl) nd
        rw [if_neg k6]; rw [if_neg k6] at nd
        by_cases k2 : kd = 2
        · rw [if_pos k2]; rw [if_pos k2] at nd; exact back _ (by rw [k2]; rfl) nd
        rw [if_neg k2]; rw [if_neg k2] at nd
        by_cases k9 : kd = 9
        · rw [if_pos k9] at nd; exact back _ (by rw [k9]; rfl) nd
        rw [if_neg k9] at nd
        rw [chargeparklaw12_ChargerOrder.j2, if_neg (by simpa using k9)]
        exact rest _ _ _ _ _ _ (by omega) hv nd
    · rw [if_neg hc]

theorem ChargerOrder (a0_0 : ByteArray) (a0_1 a0_2 a0_3 a0_4 a0_5 a0_6 a0_7 : Int) (l1 : List S27) (_ : (Lit.int .i64 a0_1).wf = true) (_ : (Lit.int .i64 a0_2).wf = true) (_ : (Lit.int .i64 a0_3).wf = true) (_ : (Lit.int .i64 a0_4).wf = true) (_ : (Lit.int .i64 a0_5).wf = true) (_ : (Lit.int .i64 a0_6).wf = true) (_ : (Lit.int .i64 a0_7).wf = true) (_ : ∀ n ∈ l1, (Lit.int .i64 n.f0).wf = true ∧ (Lit.int .i64 n.f1).wf = true ∧ (Lit.int .i64 n.f2).wf = true) :
    ∃ k, chargeparklaw12_ChargerOrder.f k a0_0 a0_1 a0_2 a0_3 a0_4 a0_5 a0_6 a0_7 l1 = some true := by
  refine ⟨400, ?_⟩
  unfold chargeparklaw12_ChargerOrder.f chargeparklaw12_head_c.f
  rw [ref_charger]
  simp only [Option.bind_some]
  by_cases h : chB a0_2 a0_3 a0_4 a0_5 a0_6 = true
  · rw [if_pos h]
    by_cases d1 : (l1.length : Int) > 100
    · rw [decide_eq_true d1]; simp [chargeparklaw12_ChargerOrder.j0]
    rw [decide_eq_false d1, chargeparklaw12_ChargerOrder.j0, if_neg (by simp), charger_Start.f]
    have hc := of_decide_eq_true h
    have e := order_loop a0_0 a0_1 a0_2 a0_3 a0_4 a0_5 a0_6 a0_7 l1 (by omega) 100 399 0 0 0 0 false (sB_of h ⟨by omega, by omega, by omega, by omega, by omega, by omega, fun _ => rfl, fun q => by cases q⟩) (by omega) (by omega) (by omega) (by omega)
    rw [show dn 0 = 0 by unfold dn; decide] at e
    exact e
  · rw [if_neg h]; simp [chargeparklaw12_ChargerOrder.j0]
end Go.Proofs.YtnfanhnflcjphaaDoor.Pure
