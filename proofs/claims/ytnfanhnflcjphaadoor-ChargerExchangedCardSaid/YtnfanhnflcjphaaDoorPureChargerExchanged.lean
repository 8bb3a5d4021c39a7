/- An event of the plug or the contactor, and a lease or a tick, can be exchanged, said of the printed functions. No conditions. -/
import Derived.Test.YtnfanhnflcjphaaDoorPAllx14
import Derived.Test.YtnfanhnflcjphaaDoorChargerPlain
namespace Go.Proofs.YtnfanhnflcjphaaDoor.Pure
open Go.RowKit Go.Proofs.YtnfanhnflcjphaaDoor.PAll Go.Proofs.YtnfanhnflcjphaaDoorW.PrintWords Go.Proofs.YtnfanhnflcjphaaDoorW.PrintLast Go.Proofs.YtnfanhnflcjphaaDoorW.PrintMore Go.Proofs.YtnfanhnflcjphaaDoor.Plain

/-- The phase and the weld after an event of the plug or the contactor. -/
def plugW (T : Int) (we : Bool) (k n : Int) : Int × Bool :=
  if k = 6 then (if n = 1 then (5, true) else if n = 2 then (5, we) else (if we = true then 5 else T, we))
  else if k = 4 then (if n = 0 then (5, we) else (if we = true then 5 else T, we))
  else (if we = true then 5 else T, we)
theorem plug_step {k : Int} (hk : k ≤ 6) (T am lf : Int) (we : Bool) (n m : Int) : Hand.stepW T am lf we k n m = ((plugW T we k n).1, am, lf, (plugW T we k n).2) := by
  unfold Hand.stepW plugW
  rw [if_neg (by omega), if_neg (by omega), if_neg (by omega)]
  repeat' split
  all_goals rfl
/-- The lease after a lease or a tick. -/
def leaseW (am lf k n m : Int) : Int × Int := if k = 7 then (n, m) else (if 1 < lf then (am, lf - 1) else (0, 0))
theorem lease_step {k : Int} (hk : k = 7 ∨ k = 8) (T am lf : Int) (we : Bool) (n m : Int) : Hand.stepW T am lf we k n m = (if we = true then 5 else T, (leaseW am lf k n m).1, (leaseW am lf k n m).2, we) := by
  unfold Hand.stepW leaseW
  rcases hk with rfl | rfl
  · rw [if_pos rfl, if_pos rfl]
  · simp only [if_neg (show ¬ (8 : Int) = 7 by decide), if_true]
    by_cases q : 1 < lf
    · rw [if_pos q, if_pos q]
    · rw [if_neg q, if_neg q]
theorem lease_phase {k : Int} (hk : k = 7 ∨ k = 8) (p : Int) : Hand.stepT k p = p := by
  unfold Hand.stepT
  rcases hk with rfl | rfl <;> simp

theorem stp_of {c2 c3 c4 c5 c6 ph am lf : Int} {we : Bool} (h : sB c2 c3 c4 c5 c6 ph am lf we = true) {k n m : Int} (hk : 1 ≤ k ∧ k ≤ 9) (hf : fB c4 k n m = true) : stp c2 c3 c4 c5 c6 ph am lf we k n m = Hand.stepV ph am lf we k n m := by
  unfold stp; rw [if_pos h, if_pos hk, if_pos hf]
theorem stp_no {c2 c3 c4 c5 c6 ph am lf : Int} {we : Bool} (h : sB c2 c3 c4 c5 c6 ph am lf we = true) {k n m : Int} (hk : 1 ≤ k ∧ k ≤ 9) (hf : fB c4 k n m = false) : stp c2 c3 c4 c5 c6 ph am lf we k n m = (0, 0, 0, false, 1) := by
  unfold stp; rw [if_pos h, if_pos hk, if_neg (by rw [hf]; decide)]

theorem ChargerExchanged (a0_0 : ByteArray) (a0_1 a0_2 a0_3 a0_4 a0_5 a0_6 a0_7 a1_0 a1_1 a1_2 : Int) (a1_3 : Bool) (a2_0 a2_1 a2_2 a3_0 a3_1 a3_2 : Int) (_ : (Lit.int .i64 a0_1).wf = true) (_ : (Lit.int .i64 a0_2).wf = true) (_ : (Lit.int .i64 a0_3).wf = true) (_ : (Lit.int .i64 a0_4).wf = true) (_ : (Lit.int .i64 a0_5).wf = true) (_ : (Lit.int .i64 a0_6).wf = true) (_ : (Lit.int .i64 a0_7).wf = true) (_ : (Lit.int .i64 a1_0).wf = true) (_ : (Lit.int .i64 a1_1).wf = true) (_ : (Lit.int .i64 a1_2).wf = true) (_ : (Lit.int .i64 a2_0).wf = true) (_ : (Lit.int .i64 a2_1).wf = true) (_ : (Lit.int .i64 a2_2).wf = true) (_ : (Lit.int .i64 a3_0).wf = true) (_ : (Lit.int .i64 a3_1).wf = true) (_ : (Lit.int .i64 a3_2).wf = true) :
    ∃ k, chargeparklaw12_ChargerExchanged.f k a0_0 a0_1 a0_2 a0_3 a0_4 a0_5 a0_6 a0_7 a1_0 a1_1 a1_2 a1_3 a2_0 a2_1 a2_2 a3_0 a3_1 a3_2 = some true := by
  refine ⟨3, ?_⟩
  unfold chargeparklaw12_ChargerExchanged.f chargeparklaw12_head_c.f
  rw [ref_valid a0_0 a0_1 a0_2 a0_3 a0_4 a0_5 a0_6 a0_7 a1_0 a1_1 a1_2 a1_3 2]
  simp only [Option.bind_some]
  by_cases h : sB a0_2 a0_3 a0_4 a0_5 a0_6 a1_0 a1_1 a1_2 a1_3 = true
  case neg => rw [if_neg h]; simp [chargeparklaw12_ChargerExchanged.j0]
  rw [if_pos h]
  by_cases d1 : a2_0 < 1
  · rw [if_pos d1]; simp [chargeparklaw12_ChargerExchanged.j0]
  rw [if_neg d1]
  by_cases d2 : a2_0 > 6
  · rw [if_pos d2]; simp [chargeparklaw12_ChargerExchanged.j0]
  rw [if_neg d2]
  have main : (a3_0 = 7 ∨ a3_0 = 8) → chargeparklaw12_ChargerExchanged.j0 3 true false a0_0 a0_1 a0_2 a0_3 a0_4 a0_5 a0_6 a0_7 a1_0 a1_1 a1_2 a1_3 a2_0 a2_1 a2_2 a3_0 a3_1 a3_2 = some true := by
    intro hb
    rw [chargeparklaw12_ChargerExchanged.j0, if_neg (by decide), step_eq, step_eq]
    simp only [Option.bind_some]
    obtain ⟨hc, o⟩ := sB_true h
    have ka : 1 ≤ a2_0 ∧ a2_0 ≤ 9 := by omega
    have hwe : (if a1_3 = true then (5 : Int) else a1_0) = a1_0 := by
      split
      · exact (o.f (by assumption)).symm
      · rfl
    rcases stp_cases h a3_0 a3_1 a3_2 with (⟨f, q⟩ | ⟨f, _, q⟩ | ⟨f, _, _, q⟩) | ⟨py, ay, ly, wy, f, hy, kb, fb, tb, hyw⟩
    · omega
    · rw [f]
      rcases stp_cases h a2_0 a2_1 a2_2 with (⟨e, _⟩ | ⟨e, _⟩ | ⟨e, _⟩) | ⟨px, ax, lx, wx, e, hx, _⟩ <;> rw [e] <;> simp [chargeparklaw12_ChargerExchanged.j1]
    · rw [lease_phase hb] at q; have := o.p0; omega
    · rw [lease_phase hb, lease_step hb, hwe, Prod.mk.injEq, Prod.mk.injEq, Prod.mk.injEq] at hyw
      obtain ⟨y1, y2, y3, y4⟩ := hyw
      subst y1; subst y4
      rw [f]
      rcases stp_cases h a2_0 a2_1 a2_2 with (⟨e, q⟩ | ⟨e, _, q⟩ | ⟨e, _, q, q'⟩) | ⟨px, ax, lx, wx, e, hx, _, fa, ta, hxw⟩
      · omega
      · rw [e]
        simp only [chargeparklaw12_ChargerExchanged.j1, step_eq, stp_no hy ka q, Option.bind_some]
        simp
      · rw [e]
        have hs : stp a0_2 a0_3 a0_4 a0_5 a0_6 py ay ly wy a2_0 a2_1 a2_2 = (0, 0, 0, false, 6) := by
          rw [stp_of hy ka q]; unfold Hand.stepV; rw [if_pos q']
        simp only [chargeparklaw12_ChargerExchanged.j1, step_eq, hs, Option.bind_some]
        simp
      · rw [plug_step (by omega), Prod.mk.injEq, Prod.mk.injEq, Prod.mk.injEq] at hxw
        obtain ⟨x1, x2, x3, x4⟩ := hxw
        subst x2; subst x3
        have hox := (sB_true hx).2
        have hp : stp a0_2 a0_3 a0_4 a0_5 a0_6 px ax lx wx a3_0 a3_1 a3_2 = (px, ay, ly, wx, 0) := by
          rw [stp_of hx kb fb]
          unfold Hand.stepV
          rw [lease_phase hb, if_neg (by have := hox.p0; omega), lease_step hb, y2, y3]
          have : (if wx = true then (5 : Int) else px) = px := by
            split
            · exact (hox.f (by assumption)).symm
            · rfl
          rw [this]
        have hq : stp a0_2 a0_3 a0_4 a0_5 a0_6 py ay ly wy a2_0 a2_1 a2_2 = (px, ay, ly, wx, 0) := by
          rw [stp_of hy ka fa]
          unfold Hand.stepV
          rw [if_neg ta, plug_step (by omega), x1, x4]
        rw [e]
        simp only [chargeparklaw12_ChargerExchanged.j1, step_eq, hp, hq, Option.bind_some]
        simp
  by_cases d3 : a3_0 = 7
  · rw [if_pos d3]; exact main (.inl d3)
  · rw [if_neg d3]
    by_cases d4 : a3_0 = 8
    · rw [show (a3_0 != 8) = false by simp [d4]]; exact main (.inr d4)
    · rw [show (a3_0 != 8) = true by simp [d4]]; simp [chargeparklaw12_ChargerExchanged.j0]
end Go.Proofs.YtnfanhnflcjphaaDoor.Pure
