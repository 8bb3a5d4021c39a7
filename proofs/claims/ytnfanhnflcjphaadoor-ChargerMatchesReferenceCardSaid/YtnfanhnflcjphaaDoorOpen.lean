/- How the parameters of this seat's laws open: a struct of scalars, a slice of scalars, a slice of structs. No conditions. -/
import Derived.Test.YtnfanhnflcjphaaDoorPAllx0
import Derived.Lib.SmallJoins
import Derived.Deep.Slices
import Derived.Deep.Fields
import Derived.ChangeSame
import Derived.ProofKit
import Derived.OpenShut
import Derived.ShutString
import Derived.SizedLaws
import Derived.ChangeSlices
import Derived.Test.YtnfanhnflcjphaaDoorWSized
namespace Go.Proofs.YtnfanhnflcjphaaDoor.Open
open Go.Joins Go.ChangeShapes Go.WideShapes Go.RowKit Go.Deep Go.Proofs.YtnfanhnflcjphaaDoorW.PrintWords Go.Proofs.YtnfanhnflcjphaaDoorW.PrintLast Go.Proofs.YtnfanhnflcjphaaDoor.PAll
open Go.ChangeMaps (open_string shut_string)
set_option linter.unusedVariables false
set_option linter.unusedSimpArgs false
variable {H : Type} {enc : TypeId × Value → H} {w : World} {base : Nat} {spare : Nat → Bool} {held : Bool}
theorem trod_str {P : Program} {fuel : Nat} {t : TypeId} {cs : List Value} {x : DataW H × List MemPlace} (ht : P.underlying t = some .string) (h : DataW.trod enc P w base spare held fuel t cs = some x) : ∃ s : ByteArray, cs = [.string s] := by
  cases fuel with
  | zero => simp [DataW.trod] at h
  | succ n =>
    unfold DataW.trod at h
    rw [ht] at h
    split at h <;> simp_all
theorem trod_boo {P : Program} {fuel : Nat} {t : TypeId} {cs : List Value} {x : DataW H × List MemPlace} (ht : P.underlying t = some .bool) (h : DataW.trod enc P w base spare held fuel t cs = some x) : ∃ b : Bool, cs = [.bool b] := by
  cases fuel with
  | zero => simp [DataW.trod] at h
  | succ n =>
    unfold DataW.trod at h
    rw [ht] at h
    split at h <;> simp_all
theorem open_st23 {r : Reach} {b0 : Nat} {v : Value} {d : DataW H} {p : List MemPlace} (hv : Value.okWide Tryd.prog w r b0 23 v) (h : DataW.Trod enc Tryd.prog w base spare held 23 v d p) :
    ∃ (a0 : ByteArray) (a1 : Int) (a2 : Int) (a3 : Int) (a4 : Int) (a5 : Int) (a6 : Int) (a7 : Int), v = .agg #[.string a0, .int .i64 a1, .int .i64 a2, .int .i64 a3, .int .i64 a4, .int .i64 a5, .int .i64 a6, .int .i64 a7] ∧ (Lit.int .i64 a1).wf = true ∧ (Lit.int .i64 a2).wf = true ∧ (Lit.int .i64 a3).wf = true ∧ (Lit.int .i64 a4).wf = true ∧ (Lit.int .i64 a5).wf = true ∧ (Lit.int .i64 a6).wf = true ∧ (Lit.int .i64 a7).wf = true := by
  obtain ⟨cs, rfl, hsz⟩ := okWide_struct Tryd.underlying23 hv
  obtain ⟨l⟩ := cs
  match l, hsz.trans (show Tryd.prog.cellsOf 23 = 8 by kernel_rfl) with
  | [c0, c1, c2, c3, c4, c5, c6, c7], _ =>
    obtain ⟨fuel, hf⟩ := h
    obtain ⟨xs, n, _, hx, _, hlen, hg⟩ := DataW.trod_struct Tryd.underlying23 hf
    match xs, hlen with
    | [y0, y1, y2, y3, y4, y5, y6, y7], _ =>
      have f0 : DataW.trod enc Tryd.prog w base spare held n 9 ((([c0, c1, c2, c3, c4, c5, c6, c7] : List Value).drop 0).take (Tryd.prog.cellsOf 9)) = some y0 := hg 0 _ rfl
      rw [show Tryd.prog.cellsOf 9 = 1 by kernel_rfl] at f0
      have g0 : DataW.trod enc Tryd.prog w base spare held n 9 [c0] = some y0 := f0
      have f1 : DataW.trod enc Tryd.prog w base spare held n 3 ((([c0, c1, c2, c3, c4, c5, c6, c7] : List Value).drop 1).take (Tryd.prog.cellsOf 3)) = some y1 := hg 1 _ rfl
      rw [show Tryd.prog.cellsOf 3 = 1 by kernel_rfl] at f1
      have g1 : DataW.trod enc Tryd.prog w base spare held n 3 [c1] = some y1 := f1
      have f2 : DataW.trod enc Tryd.prog w base spare held n 3 ((([c0, c1, c2, c3, c4, c5, c6, c7] : List Value).drop 2).take (Tryd.prog.cellsOf 3)) = some y2 := hg 2 _ rfl
      rw [show Tryd.prog.cellsOf 3 = 1 by kernel_rfl] at f2
      have g2 : DataW.trod enc Tryd.prog w base spare held n 3 [c2] = some y2 := f2
      have f3 : DataW.trod enc Tryd.prog w base spare held n 3 ((([c0, c1, c2, c3, c4, c5, c6, c7] : List Value).drop 3).take (Tryd.prog.cellsOf 3)) = some y3 := hg 3 _ rfl
      rw [show Tryd.prog.cellsOf 3 = 1 by kernel_rfl] at f3
      have g3 : DataW.trod enc Tryd.prog w base spare held n 3 [c3] = some y3 := f3
      have f4 : DataW.trod enc Tryd.prog w base spare held n 3 ((([c0, c1, c2, c3, c4, c5, c6, c7] : List Value).drop 4).take (Tryd.prog.cellsOf 3)) = some y4 := hg 4 _ rfl
      rw [show Tryd.prog.cellsOf 3 = 1 by kernel_rfl] at f4
      have g4 : DataW.trod enc Tryd.prog w base spare held n 3 [c4] = some y4 := f4
      have f5 : DataW.trod enc Tryd.prog w base spare held n 3 ((([c0, c1, c2, c3, c4, c5, c6, c7] : List Value).drop 5).take (Tryd.prog.cellsOf 3)) = some y5 := hg 5 _ rfl
      rw [show Tryd.prog.cellsOf 3 = 1 by kernel_rfl] at f5
      have g5 : DataW.trod enc Tryd.prog w base spare held n 3 [c5] = some y5 := f5
      have f6 : DataW.trod enc Tryd.prog w base spare held n 3 ((([c0, c1, c2, c3, c4, c5, c6, c7] : List Value).drop 6).take (Tryd.prog.cellsOf 3)) = some y6 := hg 6 _ rfl
      rw [show Tryd.prog.cellsOf 3 = 1 by kernel_rfl] at f6
      have g6 : DataW.trod enc Tryd.prog w base spare held n 3 [c6] = some y6 := f6
      have f7 : DataW.trod enc Tryd.prog w base spare held n 3 ((([c0, c1, c2, c3, c4, c5, c6, c7] : List Value).drop 7).take (Tryd.prog.cellsOf 3)) = some y7 := hg 7 _ rfl
      rw [show Tryd.prog.cellsOf 3 = 1 by kernel_rfl] at f7
      have g7 : DataW.trod enc Tryd.prog w base spare held n 3 [c7] = some y7 := f7
      obtain ⟨a0, e0⟩ := trod_str Tryd.underlying9 g0
      obtain rfl := (List.cons.inj e0).1
      obtain ⟨a1, e1, _, w1⟩ := DataW.trod_int Tryd.underlying3 g1
      obtain rfl := (List.cons.inj e1).1
      obtain ⟨a2, e2, _, w2⟩ := DataW.trod_int Tryd.underlying3 g2
      obtain rfl := (List.cons.inj e2).1
      obtain ⟨a3, e3, _, w3⟩ := DataW.trod_int Tryd.underlying3 g3
      obtain rfl := (List.cons.inj e3).1
      obtain ⟨a4, e4, _, w4⟩ := DataW.trod_int Tryd.underlying3 g4
      obtain rfl := (List.cons.inj e4).1
      obtain ⟨a5, e5, _, w5⟩ := DataW.trod_int Tryd.underlying3 g5
      obtain rfl := (List.cons.inj e5).1
      obtain ⟨a6, e6, _, w6⟩ := DataW.trod_int Tryd.underlying3 g6
      obtain rfl := (List.cons.inj e6).1
      obtain ⟨a7, e7, _, w7⟩ := DataW.trod_int Tryd.underlying3 g7
      obtain rfl := (List.cons.inj e7).1
      exact ⟨a0, a1, a2, a3, a4, a5, a6, a7, rfl, w1, w2, w3, w4, w5, w6, w7⟩
theorem open_st25 {r : Reach} {b0 : Nat} {v : Value} {d : DataW H} {p : List MemPlace} (hv : Value.okWide Tryd.prog w r b0 25 v) (h : DataW.Trod enc Tryd.prog w base spare held 25 v d p) :
    ∃ (a0 : Int) (a1 : Int) (a2 : Int) (a3 : Bool), v = .agg #[.int .i64 a0, .int .i64 a1, .int .i64 a2, .bool a3] ∧ (Lit.int .i64 a0).wf = true ∧ (Lit.int .i64 a1).wf = true ∧ (Lit.int .i64 a2).wf = true := by
  obtain ⟨cs, rfl, hsz⟩ := okWide_struct Tryd.underlying25 hv
  obtain ⟨l⟩ := cs
  match l, hsz.trans (show Tryd.prog.cellsOf 25 = 4 by kernel_rfl) with
  | [c0, c1, c2, c3], _ =>
    obtain ⟨fuel, hf⟩ := h
    obtain ⟨xs, n, _, hx, _, hlen, hg⟩ := DataW.trod_struct Tryd.underlying25 hf
    match xs, hlen with
    | [y0, y1, y2, y3], _ =>
      have f0 : DataW.trod enc Tryd.prog w base spare held n 3 ((([c0, c1, c2, c3] : List Value).drop 0).take (Tryd.prog.cellsOf 3)) = some y0 := hg 0 _ rfl
      rw [show Tryd.prog.cellsOf 3 = 1 by kernel_rfl] at f0
      have g0 : DataW.trod enc Tryd.prog w base spare held n 3 [c0] = some y0 := f0
      have f1 : DataW.trod enc Tryd.prog w base spare held n 3 ((([c0, c1, c2, c3] : List Value).drop 1).take (Tryd.prog.cellsOf 3)) = some y1 := hg 1 _ rfl
      rw [show Tryd.prog.cellsOf 3 = 1 by kernel_rfl] at f1
      have g1 : DataW.trod enc Tryd.prog w base spare held n 3 [c1] = some y1 := f1
      have f2 : DataW.trod enc Tryd.prog w base spare held n 3 ((([c0, c1, c2, c3] : List Value).drop 2).take (Tryd.prog.cellsOf 3)) = some y2 := hg 2 _ rfl
      rw [show Tryd.prog.cellsOf 3 = 1 by kernel_rfl] at f2
      have g2 : DataW.trod enc Tryd.prog w base spare held n 3 [c2] = some y2 := f2
      have f3 : DataW.trod enc Tryd.prog w base spare held n 4 ((([c0, c1, c2, c3] : List Value).drop 3).take (Tryd.prog.cellsOf 4)) = some y3 := hg 3 _ rfl
      rw [show Tryd.prog.cellsOf 4 = 1 by kernel_rfl] at f3
      have g3 : DataW.trod enc Tryd.prog w base spare held n 4 [c3] = some y3 := f3
      obtain ⟨a0, e0, _, w0⟩ := DataW.trod_int Tryd.underlying3 g0
      obtain rfl := (List.cons.inj e0).1
      obtain ⟨a1, e1, _, w1⟩ := DataW.trod_int Tryd.underlying3 g1
      obtain rfl := (List.cons.inj e1).1
      obtain ⟨a2, e2, _, w2⟩ := DataW.trod_int Tryd.underlying3 g2
      obtain rfl := (List.cons.inj e2).1
      obtain ⟨a3, e3⟩ := trod_boo Tryd.underlying4 g3
      obtain rfl := (List.cons.inj e3).1
      exact ⟨a0, a1, a2, a3, rfl, w0, w1, w2⟩
theorem open_st27 {r : Reach} {b0 : Nat} {v : Value} {d : DataW H} {p : List MemPlace} (hv : Value.okWide Tryd.prog w r b0 27 v) (h : DataW.Trod enc Tryd.prog w base spare held 27 v d p) :
    ∃ (a0 : Int) (a1 : Int) (a2 : Int), v = .agg #[.int .i64 a0, .int .i64 a1, .int .i64 a2] ∧ (Lit.int .i64 a0).wf = true ∧ (Lit.int .i64 a1).wf = true ∧ (Lit.int .i64 a2).wf = true := by
  obtain ⟨cs, rfl, hsz⟩ := okWide_struct Tryd.underlying27 hv
  obtain ⟨l⟩ := cs
  match l, hsz.trans (show Tryd.prog.cellsOf 27 = 3 by kernel_rfl) with
  | [c0, c1, c2], _ =>
    obtain ⟨fuel, hf⟩ := h
    obtain ⟨xs, n, _, hx, _, hlen, hg⟩ := DataW.trod_struct Tryd.underlying27 hf
    match xs, hlen with
    | [y0, y1, y2], _ =>
      have f0 : DataW.trod enc Tryd.prog w base spare held n 3 ((([c0, c1, c2] : List Value).drop 0).take (Tryd.prog.cellsOf 3)) = some y0 := hg 0 _ rfl
      rw [show Tryd.prog.cellsOf 3 = 1 by kernel_rfl] at f0
      have g0 : DataW.trod enc Tryd.prog w base spare held n 3 [c0] = some y0 := f0
      have f1 : DataW.trod enc Tryd.prog w base spare held n 3 ((([c0, c1, c2] : List Value).drop 1).take (Tryd.prog.cellsOf 3)) = some y1 := hg 1 _ rfl
      rw [show Tryd.prog.cellsOf 3 = 1 by kernel_rfl] at f1
      have g1 : DataW.trod enc Tryd.prog w base spare held n 3 [c1] = some y1 := f1
      have f2 : DataW.trod enc Tryd.prog w base spare held n 3 ((([c0, c1, c2] : List Value).drop 2).take (Tryd.prog.cellsOf 3)) = some y2 := hg 2 _ rfl
      rw [show Tryd.prog.cellsOf 3 = 1 by kernel_rfl] at f2
      have g2 : DataW.trod enc Tryd.prog w base spare held n 3 [c2] = some y2 := f2
      obtain ⟨a0, e0, _, w0⟩ := DataW.trod_int Tryd.underlying3 g0
      obtain rfl := (List.cons.inj e0).1
      obtain ⟨a1, e1, _, w1⟩ := DataW.trod_int Tryd.underlying3 g1
      obtain rfl := (List.cons.inj e1).1
      obtain ⟨a2, e2, _, w2⟩ := DataW.trod_int Tryd.underlying3 g2
      obtain rfl := (List.cons.inj e2).1
      exact ⟨a0, a1, a2, rfl, w0, w1, w2⟩
section
variable {P : Program}
theorem open_slice_fields {t e : TypeId} {fs : Array Field} {fuel : Nat} {cs : List Value} {x : DataW H × List MemPlace} (ht : P.underlying t = some (.slice e)) (he : P.underlying e = some (.struct fs))
    (hone : oneCellFields P fs = true) (hC : P.cellsOf e = fs.size) (h : DataW.trod enc P w base spare held fuel t cs = some x) :
    (cs = [.slice none 0 0] ∧ x = (.nil, [])) ∨
    ∃ (a : Addr) (len cap m : Nat) (D : Nat → DataW H) (Pl : Nat → List MemPlace), cs = [.slice (some a) len cap] ∧ base ≤ a.block ∧ len ≤ cap ∧ cap ≤ maxLen ∧ m = (if spare a.block then cap else len) ∧
      x = (.slice ((List.range len).map D) ((List.range (m - len)).map fun j => D (len + j)), MemPlace.row a (m * fs.size) ++ (List.range m).flatMap Pl) ∧
      ∀ i, i < m → ∃ (ys : List (DataW H × List MemPlace)) (n : Nat), D i = .agg (ys.map (·.1)) ∧ Pl i = ys.flatMap (·.2) ∧ ys.length = fs.size ∧
        ∀ (j : Nat) (f : Field), fs[j]? = some f → ∃ (v : Value) (y : DataW H × List MemPlace), w.cell? (a.add (i * fs.size + j)) = some v ∧ ys[j]? = some y ∧ DataW.trod enc P w base spare held n f.type [v] = some y := by
  rcases open_slice ht h with h0 | ⟨a, len, cap, m, n, D, Pl, hcs, hb, hl, hm, hmm, hx, hi⟩
  · exact .inl h0
  · refine .inr ⟨a, len, cap, m, D, Pl, hcs, hb, hl, hm, hmm, by rw [hC] at hx; exact hx, fun i him => ?_⟩
    obtain ⟨cs', hc, ht'⟩ := hi i him
    rw [hC] at hc
    obtain ⟨ys, n', hn', hy, hlen, hyl, hf⟩ := DataW.trod_struct he ht'
    obtain ⟨_, hcl, hat⟩ := World.cells?_some hc
    simp only [Prod.mk.injEq] at hy
    refine ⟨ys, n', hy.1, hy.2, hyl, fun j f hj => ?_⟩
    obtain ⟨ho, hk⟩ := hone_of hone j f hj
    have hjl : j < fs.size := (Array.getElem?_eq_some_iff.1 hj).1
    have hcell := hat j hjl
    have hv : cs'[j]? = some (cs'[j]'(by omega)) := List.getElem?_eq_getElem (by omega)
    have h1 := hf j f hj
    rw [ho, hk] at h1
    have hone' : (cs'.drop j).take 1 = [cs'[j]'(by omega)] := by
      rw [List.drop_eq_getElem_cons (by omega)]
      rfl
    rw [hone'] at h1
    have hys : ys[j]? = some (ys[j]'(by omega)) := List.getElem?_eq_getElem (by omega)
    refine ⟨_, _, ?_, hys, h1.trans hys⟩
    rw [← Go.Deep.add_add, hcell, hv]
end
theorem list_of {α : Type} (Q : Nat → α → Prop) : ∀ n : Nat, (∀ i, i < n → ∃ s, Q i s) → ∃ l : List α, l.length = n ∧ ∀ i s, l[i]? = some s → Q i s
  | 0, _ => ⟨[], rfl, fun i s h => by simp at h⟩
  | n + 1, h => by
    obtain ⟨l, hl, hq⟩ := list_of Q n (fun i hi => h i (by omega))
    obtain ⟨s, hs⟩ := h n (by omega)
    refine ⟨l ++ [s], by simp [hl], fun i s' hi => ?_⟩
    rcases Nat.lt_or_ge i n with q | q
    · rw [List.getElem?_append_left (by omega)] at hi; exact hq i s' hi
    · rw [List.getElem?_append_right (by omega)] at hi
      have : i = n := by
        rcases Nat.lt_or_ge (i - l.length) 1 with q' | q'
        · omega
        · rw [List.getElem?_eq_none (by simpa using q')] at hi; cases hi
      subst this
      rw [hl] at hi; simp at hi; exact hi ▸ hs
theorem open_sl36 {r : Reach} {b0 : Nat} {v : Value} {d : DataW H} {p : List MemPlace} (hv : Value.okWide Tryd.prog w r b0 36 v) (h : DataW.Trod enc Tryd.prog w base (fun _ => true) held 36 v d p) :
    ∃ (a : Option Addr) (c : Nat) (l : List S27), v = .slice a l.length c ∧ Kd.C k27 w a l.length l ∧ l.length ≤ c ∧ ∀ n ∈ l, (Lit.int .i64 n.f0).wf = true ∧ (Lit.int .i64 n.f1).wf = true ∧ (Lit.int .i64 n.f2).wf = true := by
  obtain ⟨a, len, cap, rfl⟩ := okWide_slice Tryd.underlying36 hv
  obtain ⟨fuel, hf⟩ := h
  rcases open_slice_fields Tryd.underlying36 Tryd.underlying27 (by kernel_rfl) (by kernel_rfl) hf with ⟨hcs, _⟩ | ⟨x, l, c, m, D, Pl, hcs, _, hl, hm, hmm, _, hi⟩
  · simp [Value.cells] at hcs
    obtain ⟨rfl, rfl, rfl⟩ := hcs
    exact ⟨none, 0, [], rfl, Kd.C_nil _ _, Nat.le_refl _, fun n hn => by cases hn⟩
  · simp [Value.cells] at hcs
    obtain ⟨rfl, rfl, rfl⟩ := hcs
    have hmc : m = cap := by rw [hmm]; rfl
    subst hmc
    obtain ⟨q, hq, hp⟩ := list_of (fun i (s : S27) => w.cell? (x.add (i * 3 + 0)) = some (.int .i64 s.f0) ∧ w.cell? (x.add (i * 3 + 1)) = some (.int .i64 s.f1) ∧ w.cell? (x.add (i * 3 + 2)) = some (.int .i64 s.f2) ∧ (Lit.int .i64 s.f0).wf = true ∧ (Lit.int .i64 s.f1).wf = true ∧ (Lit.int .i64 s.f2).wf = true) len (fun i hil => by
      obtain ⟨ys, n, _, _, _, hfld⟩ := hi i (by omega)
      obtain ⟨v0, z0, hc0, _, ht0⟩ := hfld 0 _ rfl
      obtain ⟨a0, e0, _, w0⟩ := DataW.trod_int Tryd.underlying3 ht0
      obtain rfl := (List.cons.inj e0).1
      obtain ⟨v1, z1, hc1, _, ht1⟩ := hfld 1 _ rfl
      obtain ⟨a1, e1, _, w1⟩ := DataW.trod_int Tryd.underlying3 ht1
      obtain rfl := (List.cons.inj e1).1
      obtain ⟨v2, z2, hc2, _, ht2⟩ := hfld 2 _ rfl
      obtain ⟨a2, e2, _, w2⟩ := DataW.trod_int Tryd.underlying3 ht2
      obtain rfl := (List.cons.inj e2).1
      exact ⟨⟨a0, a1, a2⟩, hc0, hc1, hc2, w0, w1, w2⟩)
    subst hq
    refine ⟨some x, _, q, rfl, ⟨rfl, Nat.le_trans hl (Nat.le_trans hm (by decide)), fun _ => ⟨x, rfl, fun j s hj => ⟨[.int .i64 s.f0, .int .i64 s.f1, .int .i64 s.f2], rfl, k27_mk w s, fun i u hu => ?_⟩⟩⟩, hl, fun n hn => ?_⟩
    · have h := hp j s hj
      match i, hu with
      | 0, hu => obtain rfl := Option.some.inj hu; exact h.1
      | 1, hu => obtain rfl := Option.some.inj hu; exact h.2.1
      | 2, hu => obtain rfl := Option.some.inj hu; exact h.2.2.1
      | n + 3, hu => simp at hu
    · obtain ⟨i, hi⟩ := List.getElem?_of_mem hn
      exact (hp i n hi).2.2.2
end Go.Proofs.YtnfanhnflcjphaaDoor.Open
