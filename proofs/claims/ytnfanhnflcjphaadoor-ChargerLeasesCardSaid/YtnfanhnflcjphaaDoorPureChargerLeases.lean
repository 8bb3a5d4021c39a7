/- Whenever a charger is on, it lets through the amperes of its lease, or its fallback, said of the printed functions. No conditions. -/
import Derived.Test.YtnfanhnflcjphaaDoorPAllx11
import Derived.Test.YtnfanhnflcjphaaDoorChargerPlain
namespace Go.Proofs.YtnfanhnflcjphaaDoor.Pure
open Go.RowKit Go.Proofs.YtnfanhnflcjphaaDoor.PAll Go.Proofs.YtnfanhnflcjphaaDoorW.PrintWords Go.Proofs.YtnfanhnflcjphaaDoorW.PrintLast Go.Proofs.YtnfanhnflcjphaaDoorW.PrintMore Go.Proofs.YtnfanhnflcjphaaDoor.Plain

theorem lease_loop (c0 : ByteArray) (c1 c2 c3 c4 c5 c6 c7 : Int) (l : List S27) (hl : l.length ≤ 100) (d : Nat) : ∀ (k : Nat) (amps left i ph am lf : Int) (we : Bool),
    sB c2 c3 c4 c5 c6 ph am lf we = true → (l.length : Int) - i ≤ d → 2 * d < k → 0 ≤ i → i ≤ 100 → -i ≤ left → left ≤ 1000000 → lf = (if 0 < left then left else 0) → (0 < left → am = amps) →
    chargeparklaw12_ChargerLeases.l0 k l true amps left i c0 c1 c2 c3 c4 c5 c6 c7 ph am lf we = some true := by
  induction d with
  | zero =>
    intro k amps left i ph am lf we h hd hk hi hi2 hn hn1 v1 v2
    obtain ⟨k, rfl⟩ : ∃ m, k = m + 1 := ⟨k - 1, by omega⟩
    rw [chargeparklaw12_ChargerLeases.l0, if_neg (by omega)]
  | succ d ih =>
    intro k amps left i ph am lf we h hd hk hi hi2 hn hn1 v1 v2
    obtain ⟨k, rfl⟩ : ∃ m, k = m + 1 + 1 := ⟨k - 2, by omega⟩
    rw [chargeparklaw12_ChargerLeases.l0]
    by_cases hc : i < (l.length : Int)
    · rw [if_pos hc, if_pos hi, step_eq, w_id (i + 1) (by omega) (by omega)]
      generalize rd_T27 l i = e
      obtain ⟨kd, n, m⟩ := e
      simp only [Option.bind_some]
      -- after an accepted event, the rest
      have rest : ∀ (amps' left' ph' am' lf' : Int) (we' : Bool), sB c2 c3 c4 c5 c6 ph' am' lf' we' = true → -(i + 1) ≤ left' → left' ≤ 1000000 → lf' = (if 0 < left' then left' else 0) → (0 < left' → am' = amps') →
          chargeparklaw12_ChargerLeases.j2 (k + 1) l true amps' left' i c0 c1 c2 c3 c4 c5 c6 c7 ph' am' lf' we' = some true := by
        intro amps' left' ph' am' lf' we' h' q1 q2 q3 q4
        rw [chargeparklaw12_ChargerLeases.j2, w_id (i + 1) (by omega) (by omega), allowed_eq _ _ _ h']
        simp only [Option.bind_some, if_true]
        obtain ⟨hc', o'⟩ := sB_true h'
        have g := ih k amps' left' (i + 1) ph' am' lf' we' h' (by omega) (by omega) (by omega) (by omega) q1 q2 q3 q4
        by_cases e1 : ph' = 4
        · have hw : we' = false := by
            cases we'
            · rfl
            · have := o'.f rfl; omega
          by_cases e2 : left' > 0
          · have hv : alw c4 c6 ph' am' lf' we' = amps' := by
              unfold alw; rw [hw, if_neg (by decide), if_pos e1, if_pos (by rw [q3, if_pos e2]; exact e2), q4 e2]
            rw [if_pos e2, if_pos e1, hv, beq_self_eq_true]; exact g
          · have hv : alw c4 c6 ph' am' lf' we' = c6 := by
              unfold alw; rw [hw, if_neg (by decide), if_pos e1, if_neg (by rw [q3, if_neg e2]; omega)]
            rw [if_neg e2, if_pos e1, hv, beq_self_eq_true]; exact g
        · by_cases e2 : left' > 0
          · rw [if_pos e2, if_neg e1]; exact g
          · rw [if_neg e2, if_neg e1]; exact g
      have skip : chargeparklaw12_ChargerLeases.l0 (k + 1) l true amps left (i + 1) c0 c1 c2 c3 c4 c5 c6 c7 ph am lf we = some true :=
        ih (k + 1) amps left (i + 1) ph am lf we h (by omega) (by omega) (by omega) (by omega) (by omega) hn1 v1 v2
      rcases stp_cases h kd n m with (⟨e, _⟩ | ⟨e, _⟩ | ⟨e, _⟩) | ⟨ph', am', lf', we', e, hv, hk9, hf, ht, hw⟩
      · rw [e, if_neg (by decide)]; exact skip
      · rw [e, if_neg (by decide)]; exact skip
      · rw [e, if_neg (by decide)]; exact skip
      · rw [e]
        simp only [if_true]
        have hf := of_decide_eq_true hf
        obtain ⟨_, o⟩ := sB_true h
        have hz := o.z
        by_cases k7 : kd = 7
        · rw [if_pos k7]
          subst k7
          unfold Hand.stepW at hw
          rw [if_pos rfl, Prod.mk.injEq, Prod.mk.injEq, Prod.mk.injEq] at hw
          exact rest n m ph' am' lf' we' hv (by omega) (by omega) (by rw [hw.2.2.1, if_pos (by omega)]) (fun _ => hw.2.1)
        · rw [if_neg k7]
          by_cases k8 : kd = 8
          · rw [if_pos k8, w_id (left - 1) (by omega) (by omega)]
            subst k8
            unfold Hand.stepW at hw
            rw [if_neg (by decide), if_pos rfl] at hw
            by_cases e1 : 1 < lf
            · rw [if_pos e1, Prod.mk.injEq, Prod.mk.injEq, Prod.mk.injEq] at hw
              have : 0 < left := by
                by_cases q : 0 < left
                · exact q
                · rw [if_neg q] at v1; omega
              rw [if_pos this] at v1
              exact rest amps (left - 1) ph' am' lf' we' hv (by omega) (by omega) (by rw [hw.2.2.1, if_pos (by omega)]; omega) (fun _ => by rw [hw.2.1]; exact v2 this)
            · rw [if_neg e1, Prod.mk.injEq, Prod.mk.injEq, Prod.mk.injEq] at hw
              have : left ≤ 1 := by
                by_cases q : 0 < left
                · rw [if_pos q] at v1; omega
                · omega
              exact rest amps (left - 1) ph' am' lf' we' hv (by omega) (by omega) (by rw [hw.2.2.1, if_neg (by omega)]) (fun q => by omega)
          · rw [if_neg k8]
            by_cases k9 : kd = 9
            · rw [if_pos k9]
              subst k9
              unfold Hand.stepW at hw
              rw [if_neg (by decide), if_neg (by decide), if_pos rfl, Prod.mk.injEq, Prod.mk.injEq, Prod.mk.injEq] at hw
              exact rest amps 0 ph' am' lf' we' hv (by omega) (by omega) (by rw [hw.2.2.1, if_neg (by omega)]) (fun q => by omega)
            · rw [if_neg k9]
              have hkeep : am' = am ∧ lf' = lf := by
                unfold Hand.stepW at hw
                rw [if_neg k7, if_neg k8, if_neg k9] at hw
                repeat' split at hw
                all_goals
                  rw [Prod.mk.injEq, Prod.mk.injEq, Prod.mk.injEq] at hw
                  exact ⟨hw.2.1, hw.2.2.1⟩
              obtain ⟨rfl, rfl⟩ := hkeep
              exact rest amps left ph' am' lf' we' hv (by omega) hn1 v1 v2
    · rw [if_neg hc]

theorem ChargerLeases (a0_0 : ByteArray) (a0_1 a0_2 a0_3 a0_4 a0_5 a0_6 a0_7 : Int) (l1 : List S27) (_ : (Lit.int .i64 a0_1).wf = true) (_ : (Lit.int .i64 a0_2).wf = true) (_ : (Lit.int .i64 a0_3).wf = true) (_ : (Lit.int .i64 a0_4).wf = true) (_ : (Lit.int .i64 a0_5).wf = true) (_ : (Lit.int .i64 a0_6).wf = true) (_ : (Lit.int .i64 a0_7).wf = true) (_ : ∀ n ∈ l1, (Lit.int .i64 n.f0).wf = true ∧ (Lit.int .i64 n.f1).wf = true ∧ (Lit.int .i64 n.f2).wf = true) :
    ∃ k, chargeparklaw12_ChargerLeases.f k a0_0 a0_1 a0_2 a0_3 a0_4 a0_5 a0_6 a0_7 l1 = some true := by
  refine ⟨300, ?_⟩
  unfold chargeparklaw12_ChargerLeases.f chargeparklaw12_head_c.f
  rw [ref_charger]
  simp only [Option.bind_some]
  by_cases h : chB a0_2 a0_3 a0_4 a0_5 a0_6 = true
  · rw [if_pos h]
    by_cases d1 : (l1.length : Int) > 100
    · rw [decide_eq_true d1]; simp [chargeparklaw12_ChargerLeases.j0]
    rw [decide_eq_false d1, chargeparklaw12_ChargerLeases.j0, if_neg (by simp), charger_Start.f]
    have hc := of_decide_eq_true h
    exact lease_loop a0_0 a0_1 a0_2 a0_3 a0_4 a0_5 a0_6 a0_7 l1 (by omega) 100 299 0 0 0 0 0 0 false (sB_of h ⟨by omega, by omega, by omega, by omega, by omega, by omega, fun _ => rfl, fun q => by cases q⟩) (by omega) (by omega) (by omega) (by omega) (by omega) (by omega) rfl (fun q => by omega)
  · rw [if_neg h]; simp [chargeparklaw12_ChargerLeases.j0]
end Go.Proofs.YtnfanhnflcjphaaDoor.Pure
