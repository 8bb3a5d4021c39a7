/- How the parameters of this seat's laws open: a struct of scalars, a slice of scalars, a slice of structs. No conditions. -/
import Derived.Test.YtagphncpdhaklaaDoorPAllx0
import Derived.Lib.SmallJoins
import Derived.Deep.Slices
import Derived.Deep.Fields
import Derived.ChangeSame
import Derived.ProofKit
import Derived.OpenShut
import Derived.ShutString
import Derived.SizedLaws
import Derived.ChangeSlices
import Derived.Test.YtagphncpdhaklaaDoorWSized
namespace Go.Proofs.YtagphncpdhaklaaDoor.Open
open Go.Joins Go.ChangeShapes Go.WideShapes Go.RowKit Go.Deep Go.Proofs.YtagphncpdhaklaaDoorW.PrintWords Go.Proofs.YtagphncpdhaklaaDoorW.PrintLast Go.Proofs.YtagphncpdhaklaaDoor.PAll
open Go.ChangeMaps (open_string shut_string)
set_option linter.unusedVariables false
set_option linter.unusedSimpArgs false
variable {H : Type} {enc : TypeId × Value → H} {w : World} {base : Nat} {spare : Nat → Bool} {held : Bool}
theorem trod_str {P : Program} {fuel : Nat} {t : TypeId} {cs : List Value} {x : DataW H × List MemPlace} (ht : P.underlying t = some .string) (h : DataW.trod enc P w base spare held fuel t cs = some x) : ∃ s : ByteArray, cs = [.string s] := by
  cases fuel with
  | zero => simp [DataW.trod] at h
  | succ n =>
    unfold DataW.trod at h
    rw [ht] at h
    split at h <;> simp_all
theorem trod_boo {P : Program} {fuel : Nat} {t : TypeId} {cs : List Value} {x : DataW H × List MemPlace} (ht : P.underlying t = some .bool) (h : DataW.trod enc P w base spare held fuel t cs = some x) : ∃ b : Bool, cs = [.bool b] := by
  cases fuel with
  | zero => simp [DataW.trod] at h
  | succ n =>
    unfold DataW.trod at h
    rw [ht] at h
    split at h <;> simp_all
theorem open_st23 {r : Reach} {b0 : Nat} {v : Value} {d : DataW H} {p : List MemPlace} (hv : Value.okWide Tryd.prog w r b0 23 v) (h : DataW.Trod enc Tryd.prog w base spare held 23 v d p) :
    ∃ (a0 : ByteArray) (a1 : Int) (a2 : Int) (a3 : Int) (a4 : Int) (a5 : Int) (a6 : Int) (a7 : Int), v = .agg #[.string a0, .int .i64 a1, .int .i64 a2, .int .i64 a3, .int .i64 a4, .int .i64 a5, .int .i64 a6, .int .i64 a7] ∧ (Lit.int .i64 a1).wf = true ∧ (Lit.int .i64 a2).wf = true ∧ (Lit.int .i64 a3).wf = true ∧ (Lit.int .i64 a4).wf = true ∧ (Lit.int .i64 a5).wf = true ∧ (Lit.int .i64 a6).wf = true ∧ (Lit.int .i64 a7).wf = true := by
  obtain ⟨cs, rfl, hsz⟩ := okWide_struct Tryd.underlying23 hv
  obtain ⟨l⟩ := cs
  match l, hsz.trans (show Tryd.prog.cellsOf 23 = 8 by kernel_rfl) with
  | [c0, c1, c2, c3, c4, c5, c6, c7], _ =>
    obtain ⟨fuel, hf⟩ := h
    obtain ⟨xs, n, _, hx, _, hlen, hg⟩ := DataW.trod_struct Tryd.underlying23 hf
    match xs, hlen with
    | [y0, y1, y2, y3, y4, y5, y6, y7], _ =>
      have f0 : DataW.trod enc Tryd.prog w base spare held n 9 ((([c0, c1, c2, c3, c4, c5, c6, c7] : List Value).drop 0).take (Tryd.prog.cellsOf 9)) = some y0 := hg 0 _ rfl
      rw [show Tryd.prog.cellsOf 9 = 1 by kernel_rfl] at f0
      have g0 : DataW.trod enc Tryd.prog w base spare held n 9 [c0] = some y0 := f0
      have f1 : DataW.trod enc Tryd.prog w base spare held n 3 ((([c0, c1, c2, c3, c4, c5, c6, c7] : List Value).drop 1).take (Tryd.prog.cellsOf 3)) = some y1 := hg 1 _ rfl
      rw [show Tryd.prog.cellsOf 3 = 1 by kernel_rfl] at f1
      have g1 : DataW.trod enc Tryd.prog w base spare held n 3 [c1] = some y1 := f1
      have f2 : DataW.trod enc Tryd.prog w base spare held n 3 ((([c0, c1, c2, c3, c4, c5, c6, c7] : List Value).drop 2).take (Tryd.prog.cellsOf 3)) = some y2 := hg 2 _ rfl
      rw [show Tryd.prog.cellsOf 3 = 1 by kernel_rfl] at f2
      have g2 : DataW.trod enc Tryd.prog w base spare held n 3 [c2] = some y2 := f2
      have f3 : DataW.trod enc Tryd.prog w base spare held n 3 ((([c0, c1, c2, c3, c4, c5, c6, c7] : List Value).drop 3).take (Tryd.prog.cellsOf 3)) = some y3 := hg 3 _ rfl
      rw [show Tryd.prog.cellsOf 3 = 1 by kernel_rfl] at f3
      have g3 : DataW.trod enc Tryd.prog w base spare held n 3 [c3] = some y3 := f3
      have f4 : DataW.trod enc Tryd.prog w base spare held n 3 ((([c0, c1, c2, c3, c4, c5, c6, c7] : List Value).drop 4).take (Tryd.prog.cellsOf 3)) = some y4 := hg 4 _ rfl
      rw [show Tryd.prog.cellsOf 3 = 1 by kernel_rfl] at f4
      have g4 : DataW.trod enc Tryd.prog w base spare held n 3 [c4] = some y4 := f4
      have f5 : DataW.trod enc Tryd.prog w base spare held n 3 ((([c0, c1, c2, c3, c4, c5, c6, c7] : List Value).drop 5).take (Tryd.prog.cellsOf 3)) = some y5 := hg 5 _ rfl
      rw [show Tryd.prog.cellsOf 3 = 1 by kernel_rfl] at f5
      have g5 : DataW.trod enc Tryd.prog w base spare held n 3 [c5] = some y5 := f5
      have f6 : DataW.trod enc Tryd.prog w base spare held n 3 ((([c0, c1, c2, c3, c4, c5, c6, c7] : List Value).drop 6).take (Tryd.prog.cellsOf 3)) = some y6 := hg 6 _ rfl
      rw [show Tryd.prog.cellsOf 3 = 1 by kernel_rfl] at f6
      have g6 : DataW.trod enc Tryd.prog w base spare held n 3 [c6] = some y6 := f6
      have f7 : DataW.trod enc Tryd.prog w base spare held n 3 ((([c0, c1, c2, c3, c4, c5, c6, c7] : List Value).drop 7).take (Tryd.prog.cellsOf 3)) = some y7 := hg 7 _ rfl
      rw [show Tryd.prog.cellsOf 3 = 1 by kernel_rfl] at f7
      have g7 : DataW.trod enc Tryd.prog w base spare held n 3 [c7] = some y7 := f7
      obtain ⟨a0, e0⟩ := trod_str Tryd.underlying9 g0
      obtain rfl := (List.cons.inj e0).1
      obtain ⟨a1, e1, _, w1⟩ := DataW.trod_int Tryd.underlying3 g1
      obtain rfl := (List.cons.inj e1).1
      obtain ⟨a2, e2, _, w2⟩ := DataW.trod_int Tryd.underlying3 g2
      obtain rfl := (List.cons.inj e2).1
      obtain ⟨a3, e3, _, w3⟩ := DataW.trod_int Tryd.underlying3 g3
      obtain rfl := (List.cons.inj e3).1
      obtain ⟨a4, e4, _, w4⟩ := DataW.trod_int Tryd.underlying3 g4
      obtain rfl := (List.cons.inj e4).1
      obtain ⟨a5, e5, _, w5⟩ := DataW.trod_int Tryd.underlying3 g5
      obtain rfl := (List.cons.inj e5).1
      obtain ⟨a6, e6, _, w6⟩ := DataW.trod_int Tryd.underlying3 g6
      obtain rfl := (List.cons.inj e6).1
      obtain ⟨a7, e7, _, w7⟩ := DataW.trod_int Tryd.underlying3 g7
      obtain rfl := (List.cons.inj e7).1
      exact ⟨a0, a1, a2, a3, a4, a5, a6, a7, rfl, w1, w2, w3, w4, w5, w6, w7⟩
theorem open_st25 {r : Reach} {b0 : Nat} {v : Value} {d : DataW H} {p : List MemPlace} (hv : Value.okWide Tryd.prog w r b0 25 v) (h : DataW.Trod enc Tryd.prog w base spare held 25 v d p) :
    ∃ (a0 : Int) (a1 : Int), v = .agg #[.int .i64 a0, .int .i64 a1] ∧ (Lit.int .i64 a0).wf = true ∧ (Lit.int .i64 a1).wf = true := by
  obtain ⟨cs, rfl, hsz⟩ := okWide_struct Tryd.underlying25 hv
  obtain ⟨l⟩ := cs
  match l, hsz.trans (show Tryd.prog.cellsOf 25 = 2 by kernel_rfl) with
  | [c0, c1], _ =>
    obtain ⟨fuel, hf⟩ := h
    obtain ⟨xs, n, _, hx, _, hlen, hg⟩ := DataW.trod_struct Tryd.underlying25 hf
    match xs, hlen with
    | [y0, y1], _ =>
      have f0 : DataW.trod enc Tryd.prog w base spare held n 3 ((([c0, c1] : List Value).drop 0).take (Tryd.prog.cellsOf 3)) = some y0 := hg 0 _ rfl
      rw [show Tryd.prog.cellsOf 3 = 1 by kernel_rfl] at f0
      have g0 : DataW.trod enc Tryd.prog w base spare held n 3 [c0] = some y0 := f0
      have f1 : DataW.trod enc Tryd.prog w base spare held n 3 ((([c0, c1] : List Value).drop 1).take (Tryd.prog.cellsOf 3)) = some y1 := hg 1 _ rfl
      rw [show Tryd.prog.cellsOf 3 = 1 by kernel_rfl] at f1
      have g1 : DataW.trod enc Tryd.prog w base spare held n 3 [c1] = some y1 := f1
      obtain ⟨a0, e0, _, w0⟩ := DataW.trod_int Tryd.underlying3 g0
      obtain rfl := (List.cons.inj e0).1
      obtain ⟨a1, e1, _, w1⟩ := DataW.trod_int Tryd.underlying3 g1
      obtain rfl := (List.cons.inj e1).1
      exact ⟨a0, a1, rfl, w0, w1⟩
theorem open_sl33 {r : Reach} {b0 : Nat} {v : Value} {d : DataW H} {p : List MemPlace} (hv : Value.okWide Tryd.prog w r b0 33 v) (h : DataW.Trod enc Tryd.prog w base (fun _ => true) held 33 v d p) :
    ∃ (a : Option Addr) (c : Nat) (l : List Int), v = .slice a l.length c ∧ Kd.C (Kd.int .i64) w a l.length l ∧ l.length ≤ c ∧ ∀ n ∈ l, (Lit.int .i64 n).wf = true := by
  obtain ⟨a, len, cap, rfl⟩ := okWide_slice Tryd.underlying33 hv
  obtain ⟨fuel, hf⟩ := h
  have key : ∃ zs : List Int, (a = none ∧ len = 0 ∧ cap = 0 ∧ zs = []) ∨ ∃ x, a = some x ∧ len ≤ cap ∧ cap ≤ maxLen ∧ zs.length = cap ∧ (∀ i, i < zs.length → w.cell? (x.add i) = some (.int .i64 (zs.getD i 0))) ∧ ∀ n ∈ zs, (Lit.int .i64 n).wf = true := by
    rcases open_ints Tryd.underlying33 Tryd.underlying3 (by kernel_rfl) hf with ⟨hcs, _⟩ | ⟨x, l, c, zs, hcs, _, hl, hm, hz, _, hcell, hwz⟩
    · simp [Value.cells] at hcs
      obtain ⟨rfl, rfl, rfl⟩ := hcs
      exact ⟨[], .inl ⟨rfl, rfl, rfl, rfl⟩⟩
    · simp [Value.cells] at hcs
      obtain ⟨rfl, rfl, rfl⟩ := hcs
      exact ⟨zs, .inr ⟨_, rfl, hl, hm, by simpa using hz, hcell, hwz⟩⟩
  obtain ⟨zs, hz⟩ := key
  obtain ⟨l, rfl, hr, hm, hw, hc⟩ := ReadsInt.ofRowC hz
  exact ⟨a, cap, l, rfl, Kd.C_of_reads (d := (0 : Int)) (h1 := fun _ => rfl) hr, hc, hw⟩
theorem sized_sl33 {spare0 : Nat → Bool} {ts : List TypeId} {ds : List (DataW H)} {d : DataW H} {ps : List MemPlace} {a : Option Addr} {len cap : Nat} {j : Nat} (hsz : (DataW.weightsEach Tryd.prog ts ds).all (· ≤ reachBytes) = true) (ht : ts[j]? = some 33) (hd : ds[j]? = some d) (h : DataW.Trod enc Tryd.prog w base spare0 held 33 (.slice a len cap) d ps) : len * 8 ≤ 140737488351232 :=
  sized_ints hsz ht hd Tryd.underlying33 Tryd.underlying3 (by kernel_rfl) (by kernel_rfl) h
end Go.Proofs.YtagphncpdhaklaaDoor.Open
