/- bids.baseline: the loop over the days that count, collected and summed. No conditions. -/
import Derived.Test.YtakmioomcnnfjaaBidsIter
import Derived.Stop.RegionWithIn
namespace Go.Proofs.Ytakmioomcnnfjaa.Hand
open Go.RowKit Go.Shelf
set_option linter.unusedVariables false
attribute [local go_sem] Oper.semAt_some

/-- A row whose number in slot sl is known in a world. -/
def RowOk (w0 : World) (sl : Nat) (r : Row) : Prop := sl < r.xs.length ∧ ∃ ad, r.a = some ad ∧ (ad.add sl).block < w0.heap.size ∧ w0.cell? (ad.add sl) = some (.int .i64 (r.xs[sl]?.getD 0))

/-- The numbers of slot sl. -/
def slotOf (sl : Nat) (l : List Row) : List Int := l.map fun r => r.xs[sl]?.getD 0

/-- The bare rows. -/
def raw {Pr : Row → Prop} (l : List { r : Row // Pr r }) : List Row := l.map (·.1)
theorem raw_len {Pr : Row → Prop} (l : List { r : Row // Pr r }) : (raw l).length = l.length := by simp [raw]

theorem info_int : (Try.prog.info? 3).map (fun i => (i.zero, i.size, i.bytes)) = some (some (.int .i64 0), 1, 8) := by kernel_rfl

/-- What bids.baseline returns. -/
def baseV (l : List Int) : Int × Int := if l.length < 5 then (0, 4) else (l.sum / 5, 0)

/-- An append in a region in an open order, its run at hand. -/
theorem step_append_in {F : Fence} {n : Nat} {P : Program} {ops : Array Oper} {o : Oper} {a : Act} {w w1 : World} {v u v' : Value} {K : Act → World → Prop} {Q : Exit → Act → World → Prop} {E : Prop} (t : TypeId) (s x : Operand)
    (hg : o.guard = none) (ho : o.op = .call { callee := .builtin .append, args := #[s, x], argTypes := #[t, t] }) (hf : ∀ f, F.fn f) (hs : a.eval s = v) (hx : a.eval x = u)
    (hrun : (Builtin.append_ #[t, t] o.type #[v, u]).run P w = .ok v' w1) (hK : K (a.put o.dst v') w1) :
    if Region.wanted o (yielded ops a.tmps) = true then Oper.wpIn F n P o a w K Q else E := by
  have hw : Region.wanted o (yielded ops a.tmps) = true := by simp [Region.wanted, hg]
  rw [if_pos hw]
  refine ⟨fun f _ => hf f, ?_⟩
  rw [Oper.semAt_eq _ _ _ (fun c h => by rw [ho] at h; cases h)]
  unfold execOp
  simp only [ho, resolve, invoke, builtin, Sem.run_bind, Sem.run_pure, Result.andThen_ok, List.map_toArray, List.map_cons, List.map_nil, hs, hx, hrun]
  exact hK

set_option maxRecDepth 100000 in
set_option maxHeartbeats 4000000 in
theorem baseline_in (n : Nat) (hn : 3 ≤ n) (w : World) (A0 : Option Addr) (cD : Nat) (A1 : Option Addr) (cB : Nat) (sl : Nat) (R : List { r : Row // RowOk w sl r }) (B : List Bool) (day : Nat)
    (hR : ∀ i x, R[i]? = some x → ∃ ad, A0 = some ad ∧ w.cell? (ad.add i) = some (.slice x.1.a x.1.xs.length x.1.c) ∧ (ad.add i).block < w.heap.size)
    (hB : ∀ i b, B[i]? = some b → ∃ ad, A1 = some ad ∧ w.cell? (ad.add i) = some (.bool b) ∧ (ad.add i).block < w.heap.size)
    (hday : day ≤ R.length) (hdB : day ≤ B.length) (hm : B.length ≤ 60) (hm2 : R.length ≤ 60) (hbd : ∀ x ∈ R, 0 ≤ x.1.xs[sl]?.getD 0 ∧ x.1.xs[sl]?.getD 0 ≤ 1000) (V : Int × Int) (hV : Hid (V = baseV (slotOf sl (raw (down R B day 5))))) :
    CallsIn Fence.wide n Try.prog 23 #[.slice A0 R.length cD, .slice A1 B.length cB, .int .i64 day, .int .i64 sl] w fun e w' => e = .returned (.tuple #[.int .i64 V.1, .int .i64 V.2]) ∧ Below w.heap.size w w' := by
  have h1 : 1 ≤ n := by omega
  obtain ⟨i0, hi, hz0, hz1, hz2⟩ := info_parts info_int
  refine callsIn_of_wp_marks Try.func23 rfl trivial ?_ rfl
  simp only [Try.ntmps23, List.size_toArray, List.length_cons, List.length_nil, Nat.reduceAdd, Nat.reduceSub, Array.replicate_succ, Array.replicate_zero, List.push_toArray, List.append_toArray, List.nil_append, List.cons_append]
  have HR := Lib.hid hR
  have HB := Lib.hid hB
  have HBD := Lib.hid hbd
  clear hR hB hbd
  gi_wp2_with (refine ⟨trivial, ?_⟩; gi_at_call 26; refine (counting_in (n - 1) _ _ _ _ _ _ _ _).mono ?_; rintro e w' ⟨rfl, rfl⟩)
  have bS := ((((Boxed.new w 3 (.int .i64 sl)).alloc (.cells #[.slice none 0 0] 33)).alloc (.cells #[.slice A0 R.length cD] 22)).alloc (.cells #[.slice A1 B.length cB] 23)).alloc (.cells #[.int .i64 day] 3)
  have bL := (((Boxed.new (w.alloc (.cells #[.int .i64 sl] 3)) 33 (.slice none 0 0)).alloc (.cells #[.slice A0 R.length cD] 22)).alloc (.cells #[.slice A1 B.length cB] 23)).alloc (.cells #[.int .i64 day] 3)
  have bD := ((Boxed.new ((w.alloc (.cells #[.int .i64 sl] 3)).alloc (.cells #[.slice none 0 0] 33)) 22 (.slice A0 R.length cD)).alloc (.cells #[.slice A1 B.length cB] 23)).alloc (.cells #[.int .i64 day] 3)
  have bB := (Boxed.new (((w.alloc (.cells #[.int .i64 sl] 3)).alloc (.cells #[.slice none 0 0] 33)).alloc (.cells #[.slice A0 R.length cD] 22)) 23 (.slice A1 B.length cB)).alloc (.cells #[.int .i64 day] 3)
  have bd := Boxed.new ((((w.alloc (.cells #[.int .i64 sl] 3)).alloc (.cells #[.slice none 0 0] 33)).alloc (.cells #[.slice A0 R.length cD] 22)).alloc (.cells #[.slice A1 B.length cB] 23)) 3 (.int .i64 day)
  have hB0 : Below w.heap.size w (((((w.alloc (.cells #[.int .i64 sl] 3)).alloc (.cells #[.slice none 0 0] 33)).alloc (.cells #[.slice A0 R.length cD] 22)).alloc (.cells #[.slice A1 B.length cB] 23)).alloc (.cells #[.int .i64 day] 3)) :=
    (((((Below.refl _ w).alloc (Nat.le_refl _) _).alloc (by simp) _).alloc (by simp; omega) _).alloc (by simp; omega) _).alloc (by simp; omega) _
  have hZ : (((((w.alloc (.cells #[.int .i64 sl] 3)).alloc (.cells #[.slice none 0 0] 33)).alloc (.cells #[.slice A0 R.length cD] 22)).alloc (.cells #[.slice A1 B.length cB] 23)).alloc (.cells #[.int .i64 day] 3)).heap.size = w.heap.size + 1 + 1 + 1 + 1 + 1 := by simp
  simp only [World.size_alloc] at bL bD bB bd
  obtain ⟨W0, hW0⟩ : ∃ W0, (((((w.alloc (.cells #[.int .i64 sl] 3)).alloc (.cells #[.slice none 0 0] 33)).alloc (.cells #[.slice A0 R.length cD] 22)).alloc (.cells #[.slice A1 B.length cB] 23)).alloc (.cells #[.int .i64 day] 3)) = W0 := ⟨_, rfl⟩
  rw [hW0] at bS bL bD bB bd hB0 hZ ⊢
  clear hW0
  have hle : w.heap.size ≤ W0.heap.size := by omega
  have hln := down_len R B day 5
  have HL := Lib.hid hln
  refine wpIn_rangeFunc_ownF rfl h1 (gf := 28) (lb := #[.pointer (some ⟨w.heap.size + 1 + 1 + 1 + 1, 0, none⟩), .pointer (some ⟨w.heap.size + 1 + 1 + 1, 0, none⟩), .pointer (some ⟨w.heap.size + 1 + 1, 0, none⟩)]) rfl trivial (enters_of Try.func28 (by kernel_rfl) rfl)
    (counting_stops (n - 1) (by omega) (w.heap.size + 1 + 1 + 1 + 1) (w.heap.size + 1 + 1 + 1) (w.heap.size + 1 + 1) w.heap.size A0 cD A1 cB R B day W0 bd bB bD hle
      (fun i x hx => let ⟨ad, ha, hc, hl⟩ := HR.out i x hx; ⟨ad, ha, (hB0.cell hl).trans hc, hl⟩) (fun i x hx => let ⟨ad, ha, hc, hl⟩ := HB.out i x hx; ⟨ad, ha, (hB0.cell hl).trans hc, hl⟩) hday hdB hm hm2)
    (fun h k => h.trans k) (Kp2.back hle (by omega) (by omega)) (Below.refl _ _) (fun _ => rfl)
    (fun pre W => ((∃ v, Boxed W (w.heap.size + 1) 33 v ∧ W.ownsRow (w.heap.size + 1) 3 1 v (slotOf sl (raw pre)).length ((slotOf sl (raw pre)).map (Value.int .i64)) ∧ True) ∧ Boxed W w.heap.size 3 (.int .i64 sl)) ∧ Below w.heap.size w W)
    (fun _ _ _ => False)
    (OwnFrom.and (OwnFrom.and (Own.from (holdsRow_own (w.heap.size + 1) (w.heap.size + 1) 33 3 1 (fun pre : List { r : Row // RowOk w sl r } => (slotOf sl (raw pre)).length) (fun pre => (slotOf sl (raw pre)).map (Value.int .i64)) (fun pre v => True)) _) (Own.from (boxed_own _ _ _) _)) (ownFrom_below (Nat.le_refl _) hle))
    (fun _ _ _ _ _ hs _ _ => hs)
    ⟨⟨⟨_, bL, World.ownsRow_nil _ _ _ _, trivial⟩, bS⟩, hB0⟩
    (fun x => { tmps := #[.slice A0 R.length cD, .slice A1 B.length cB, .int .i64 day, .int .i64 sl, undef, undef, undef, .pointer (some ⟨w.heap.size, 0, none⟩), .int .i64 0, .int .i64 0, .pointer (some ⟨w.heap.size + 1, 0, none⟩), .slice x.1.a x.1.xs.length x.1.c, .slice A0 R.length cD, .slice A1 B.length cB, .int .i64 day,
      .func (.func 28) #[] #[.pointer (some ⟨w.heap.size + 1 + 1 + 1 + 1, 0, none⟩), .pointer (some ⟨w.heap.size + 1 + 1 + 1, 0, none⟩), .pointer (some ⟨w.heap.size + 1 + 1, 0, none⟩)], .slice x.1.a x.1.xs.length x.1.c, undef, undef, undef, undef, undef, undef, undef, undef, undef, undef, undef, undef, undef], defers := [] }) ?assign ?body ?done ?stop
  case assign =>
    intro l x W K hK
    gi_wp2
    exact hK
  case body =>
    rintro l pre x W ⟨⟨⟨v, hv, hrow, _⟩, hS⟩, hB⟩ hlt
    obtain ⟨hx1, ad, hxa, hxl, hxc⟩ := x.2
    have hc := hv.cell
    have hf := hv.frozen
    have hs := hS.cell
    have hxc' := (hB.cell hxl).trans hxc
    have hlen : (slotOf sl (raw pre)).length < 5 := by
      unfold slotOf; rw [List.length_map, raw_len]; have := HL.out; omega
    obtain ⟨z, hz⟩ : ∃ z, z = x.1.xs[sl]?.getD 0 := ⟨_, rfl⟩
    rw [← hz] at hxc'
    have HZ := Lib.hid hz
    clear hz hxc hxl
    have hWl : w.heap.size + 1 < W.heap.size := hv.lt
    have hvd : Boxed W.drew (w.heap.size + 1) 33 v := hv
    have hrd : W.drew.ownsRow (w.heap.size + 1) 3 1 v _ _ := hrow
    obtain ⟨v', w1, hrun, hown', hgrow, _, _⟩ := run_append_own_at (P := Try.prog) (w := W.drew.alloc (.cells #[.int .i64 z] 3)) (w.heap.size + 1) 33 33 3 i0 (.int .i64 0) 1 8 Try.underlying33 hi hz0 hz1 hz2 rfl (by decide) v _ _
      (hrd.alloc _) ⟨W.heap.size, 0, none⟩ 1 1 [.int .i64 z] rfl (cell_one_new W.drew _ _) (by simp [Value.oneCell']) (by unfold maxLen; omega) (by omega) (by simp; omega)
    obtain ⟨g', cap', rfl⟩ := ownsRow_succ hown'
    obtain ⟨hv1, hv2, hr2, hk2, hb2⟩ := hvd.appended (by decide) hrd (by simp; omega) (Nat.le_refl _) hown' hgrow
    have hc1 := hv1.cell
    have hf1 := hv1.frozen
    obtain ⟨W2, hW2⟩ : ∃ W2, w1.setCell ⟨w.heap.size + 1, 0, none⟩ (.slice (some ⟨g', 0, none⟩) ((slotOf sl (raw pre)).length + 1) cap') = W2 := ⟨_, rfl⟩
    rw [hW2] at hv2 hr2 hk2 hb2
    have HW2 := Lib.hid hW2
    have hbw : Below (w.heap.size + 1) W W2 := ((Below.refl _ W).drew).trans hb2
    have hrow' : W2.ownsRow (w.heap.size + 1) 3 1 (.slice (some ⟨g', 0, none⟩) ((slotOf sl (raw pre)).length + 1) cap') (slotOf sl (raw (pre ++ [x]))).length ((slotOf sl (raw (pre ++ [x]))).map (Value.int .i64)) := by
      have e : slotOf sl (raw (pre ++ [x])) = slotOf sl (raw pre) ++ [z] := by unfold slotOf raw; simp [HZ.out]
      rw [e, List.length_append, List.map_append]
      exact hr2
    have END : Hid (KeepsOthers W W2 ∧ Kp2 w.heap.size (w.heap.size + 1 + 1 + 1) (w.heap.size + 1 + 1) (.slice A1 B.length cB) (.slice A0 R.length cD) W W2 ∧
        (((∃ v, Boxed W2 (w.heap.size + 1) 33 v ∧ W2.ownsRow (w.heap.size + 1) 3 1 v (slotOf sl (raw (pre ++ [x]))).length ((slotOf sl (raw (pre ++ [x]))).map (Value.int .i64)) ∧ True) ∧ Boxed W2 w.heap.size 3 (.int .i64 sl)) ∧ Below w.heap.size w W2)) := by
      refine Lib.hid ⟨KeepsOthers.drew W |>.trans hk2, ⟨hbw.mono (by omega), fun q => ?_, fun q => ?_⟩, ⟨⟨_, hv2, hrow', trivial⟩, (hbw.block _ (by omega)).trans hS⟩, hB.trans (hbw.mono (by omega))⟩
      · have q1 := (((show Boxed W.drew (w.heap.size + 1 + 1 + 1) _ _ from q).alloc (.cells #[.int .i64 z] 3)).kept hgrow (q.not_row (by decide) hrow)).other (B' := w.heap.size + 1) (by omega) (.slice (some ⟨g', 0, none⟩) ((slotOf sl (raw pre)).length + 1) cap')
        rw [hW2] at q1; exact q1
      · have q1 := (((show Boxed W.drew (w.heap.size + 1 + 1) _ _ from q).alloc (.cells #[.int .i64 z] 3)).kept hgrow (q.not_row (by decide) hrow)).other (B' := w.heap.size + 1) (by omega) (.slice (some ⟨g', 0, none⟩) ((slotOf sl (raw pre)).length + 1) cap')
        rw [hW2] at q1; exact q1
    clear hv2 hr2 hk2 hb2 hbw hrow' hown' hgrow hv1 hvd hrd HZ hrow hW2
    gi_wp2
    refine wpIn_region_any (by kernel_rfl) ?_
    change wpAnyIn _ _ _ _ _ _ _ _ _ (World.drew _)
    refine wpAnyIn_ready (rs := [0, 1, 2]) (by kernel_rfl) (by simp) ?_
    refine AllReadyIn.cons rfl (fun K hK => ?_) (AllReadyIn.cons rfl (fun K hK => ?_) (AllReadyIn.cons rfl (fun K hK => ?_) AllReadyIn.nil))
    · go_simp
      refine hK _ _ ?_
      clear hK K
      refine wpAnyIn_ready (rs := [1, 2]) (by kernel_rfl) (by simp) ?_
      refine AllReadyIn.cons rfl (fun K hK => ?_) (AllReadyIn.cons rfl (fun K hK => ?_) AllReadyIn.nil)
      · go_simp
        refine hK _ _ ?_
        clear hK K
        refine wpAnyIn_ready (rs := [2]) (by kernel_rfl) (by simp) ?_
        refine AllReadyIn.cons rfl (fun K hK => ?_) AllReadyIn.nil
        go_simp
        refine hK _ _ ?_
        clear hK K
        refine wpAnyIn_ready (rs := [3]) (by kernel_rfl) (by simp) ?_
        refine AllReadyIn.cons rfl (fun K hK => ?_) AllReadyIn.nil
        go_simp
        refine hK _ _ ?_
        clear hK K
        refine wpAnyIn_ready (rs := [4]) (by kernel_rfl) (by simp) ?_
        refine AllReadyIn.cons rfl (fun K hK => ?_) AllReadyIn.nil
        go_simp
        refine hK _ _ ?_
        clear hK K
        refine wpAnyIn_ready (rs := [5]) (by kernel_rfl) (by simp) ?_
        refine AllReadyIn.cons rfl (fun K hK => ?_) AllReadyIn.nil
        go_simp
        refine hK _ _ ?_
        clear hK K
        refine wpAnyIn_ready (rs := [6]) (by kernel_rfl) (by simp) ?_
        refine AllReadyIn.cons rfl (fun K hK => ?_) AllReadyIn.nil
        refine step_append_in 33 _ _ rfl rfl (fun _ => trivial) rfl rfl hrun (hK _ _ ?_)
        clear hK K
        refine wpAnyIn_ready (rs := [7]) (by kernel_rfl) (by simp) ?_
        refine AllReadyIn.cons rfl (fun K hK => ?_) AllReadyIn.nil
        go_simp
        refine hK _ _ ?_
        clear hK K
        refine wpAnyIn_done (by kernel_rfl) ?_ _
        first | (show ownPostK _ _ _ _ _ Exit.normal _ _; rw [HW2.out]; exact END.out) | (rw [HW2.out]; exact END.out)
      · go_simp
        refine hK _ _ ?_
        clear hK K
        refine wpAnyIn_ready (rs := [1]) (by kernel_rfl) (by simp) ?_
        refine AllReadyIn.cons rfl (fun K hK => ?_) AllReadyIn.nil
        go_simp
        refine hK _ _ ?_
        clear hK K
        refine wpAnyIn_ready (rs := [3]) (by kernel_rfl) (by simp) ?_
        refine AllReadyIn.cons rfl (fun K hK => ?_) AllReadyIn.nil
        go_simp
        refine hK _ _ ?_
        clear hK K
        refine wpAnyIn_ready (rs := [4]) (by kernel_rfl) (by simp) ?_
        refine AllReadyIn.cons rfl (fun K hK => ?_) AllReadyIn.nil
        go_simp
        refine hK _ _ ?_
        clear hK K
        refine wpAnyIn_ready (rs := [5]) (by kernel_rfl) (by simp) ?_
        refine AllReadyIn.cons rfl (fun K hK => ?_) AllReadyIn.nil
        go_simp
        refine hK _ _ ?_
        clear hK K
        refine wpAnyIn_ready (rs := [6]) (by kernel_rfl) (by simp) ?_
        refine AllReadyIn.cons rfl (fun K hK => ?_) AllReadyIn.nil
        refine step_append_in 33 _ _ rfl rfl (fun _ => trivial) rfl rfl hrun (hK _ _ ?_)
        clear hK K
        refine wpAnyIn_ready (rs := [7]) (by kernel_rfl) (by simp) ?_
        refine AllReadyIn.cons rfl (fun K hK => ?_) AllReadyIn.nil
        go_simp
        refine hK _ _ ?_
        clear hK K
        refine wpAnyIn_done (by kernel_rfl) ?_ _
        first | (show ownPostK _ _ _ _ _ Exit.normal _ _; rw [HW2.out]; exact END.out) | (rw [HW2.out]; exact END.out)
    · go_simp
      refine hK _ _ ?_
      clear hK K
      refine wpAnyIn_ready (rs := [0, 2]) (by kernel_rfl) (by simp) ?_
      refine AllReadyIn.cons rfl (fun K hK => ?_) (AllReadyIn.cons rfl (fun K hK => ?_) AllReadyIn.nil)
      · go_simp
        refine hK _ _ ?_
        clear hK K
        refine wpAnyIn_ready (rs := [2]) (by kernel_rfl) (by simp) ?_
        refine AllReadyIn.cons rfl (fun K hK => ?_) AllReadyIn.nil
        go_simp
        refine hK _ _ ?_
        clear hK K
        refine wpAnyIn_ready (rs := [3]) (by kernel_rfl) (by simp) ?_
        refine AllReadyIn.cons rfl (fun K hK => ?_) AllReadyIn.nil
        go_simp
        refine hK _ _ ?_
        clear hK K
        refine wpAnyIn_ready (rs := [4]) (by kernel_rfl) (by simp) ?_
        refine AllReadyIn.cons rfl (fun K hK => ?_) AllReadyIn.nil
        go_simp
        refine hK _ _ ?_
        clear hK K
        refine wpAnyIn_ready (rs := [5]) (by kernel_rfl) (by simp) ?_
        refine AllReadyIn.cons rfl (fun K hK => ?_) AllReadyIn.nil
        go_simp
        refine hK _ _ ?_
        clear hK K
        refine wpAnyIn_ready (rs := [6]) (by kernel_rfl) (by simp) ?_
        refine AllReadyIn.cons rfl (fun K hK => ?_) AllReadyIn.nil
        refine step_append_in 33 _ _ rfl rfl (fun _ => trivial) rfl rfl hrun (hK _ _ ?_)
        clear hK K
        refine wpAnyIn_ready (rs := [7]) (by kernel_rfl) (by simp) ?_
        refine AllReadyIn.cons rfl (fun K hK => ?_) AllReadyIn.nil
        go_simp
        refine hK _ _ ?_
        clear hK K
        refine wpAnyIn_done (by kernel_rfl) ?_ _
        first | (show ownPostK _ _ _ _ _ Exit.normal _ _; rw [HW2.out]; exact END.out) | (rw [HW2.out]; exact END.out)
      · go_simp
        refine hK _ _ ?_
        clear hK K
        refine wpAnyIn_ready (rs := [0, 3]) (by kernel_rfl) (by simp) ?_
        refine AllReadyIn.cons rfl (fun K hK => ?_) (AllReadyIn.cons rfl (fun K hK => ?_) AllReadyIn.nil)
        · go_simp
          refine hK _ _ ?_
          clear hK K
          refine wpAnyIn_ready (rs := [3]) (by kernel_rfl) (by simp) ?_
          refine AllReadyIn.cons rfl (fun K hK => ?_) AllReadyIn.nil
          go_simp
          refine hK _ _ ?_
          clear hK K
          refine wpAnyIn_ready (rs := [4]) (by kernel_rfl) (by simp) ?_
          refine AllReadyIn.cons rfl (fun K hK => ?_) AllReadyIn.nil
          go_simp
          refine hK _ _ ?_
          clear hK K
          refine wpAnyIn_ready (rs := [5]) (by kernel_rfl) (by simp) ?_
          refine AllReadyIn.cons rfl (fun K hK => ?_) AllReadyIn.nil
          go_simp
          refine hK _ _ ?_
          clear hK K
          refine wpAnyIn_ready (rs := [6]) (by kernel_rfl) (by simp) ?_
          refine AllReadyIn.cons rfl (fun K hK => ?_) AllReadyIn.nil
          refine step_append_in 33 _ _ rfl rfl (fun _ => trivial) rfl rfl hrun (hK _ _ ?_)
          clear hK K
          refine wpAnyIn_ready (rs := [7]) (by kernel_rfl) (by simp) ?_
          refine AllReadyIn.cons rfl (fun K hK => ?_) AllReadyIn.nil
          go_simp
          refine hK _ _ ?_
          clear hK K
          refine wpAnyIn_done (by kernel_rfl) ?_ _
          first | (show ownPostK _ _ _ _ _ Exit.normal _ _; rw [HW2.out]; exact END.out) | (rw [HW2.out]; exact END.out)
        · go_simp
          refine hK _ _ ?_
          clear hK K
          refine wpAnyIn_ready (rs := [0, 4]) (by kernel_rfl) (by simp) ?_
          refine AllReadyIn.cons rfl (fun K hK => ?_) (AllReadyIn.cons rfl (fun K hK => ?_) AllReadyIn.nil)
          · go_simp
            refine hK _ _ ?_
            clear hK K
            refine wpAnyIn_ready (rs := [4]) (by kernel_rfl) (by simp) ?_
            refine AllReadyIn.cons rfl (fun K hK => ?_) AllReadyIn.nil
            go_simp
            refine hK _ _ ?_
            clear hK K
            refine wpAnyIn_ready (rs := [5]) (by kernel_rfl) (by simp) ?_
            refine AllReadyIn.cons rfl (fun K hK => ?_) AllReadyIn.nil
            go_simp
            refine hK _ _ ?_
            clear hK K
            refine wpAnyIn_ready (rs := [6]) (by kernel_rfl) (by simp) ?_
            refine AllReadyIn.cons rfl (fun K hK => ?_) AllReadyIn.nil
            refine step_append_in 33 _ _ rfl rfl (fun _ => trivial) rfl rfl hrun (hK _ _ ?_)
            clear hK K
            refine wpAnyIn_ready (rs := [7]) (by kernel_rfl) (by simp) ?_
            refine AllReadyIn.cons rfl (fun K hK => ?_) AllReadyIn.nil
            go_simp
            refine hK _ _ ?_
            clear hK K
            refine wpAnyIn_done (by kernel_rfl) ?_ _
            first | (show ownPostK _ _ _ _ _ Exit.normal _ _; rw [HW2.out]; exact END.out) | (rw [HW2.out]; exact END.out)
          · go_simp
            refine hK _ _ ?_
            clear hK K
            refine wpAnyIn_ready (rs := [0, 5]) (by kernel_rfl) (by simp) ?_
            refine AllReadyIn.cons rfl (fun K hK => ?_) (AllReadyIn.cons rfl (fun K hK => ?_) AllReadyIn.nil)
            · go_simp
              refine hK _ _ ?_
              clear hK K
              refine wpAnyIn_ready (rs := [5]) (by kernel_rfl) (by simp) ?_
              refine AllReadyIn.cons rfl (fun K hK => ?_) AllReadyIn.nil
              go_simp
              refine hK _ _ ?_
              clear hK K
              refine wpAnyIn_ready (rs := [6]) (by kernel_rfl) (by simp) ?_
              refine AllReadyIn.cons rfl (fun K hK => ?_) AllReadyIn.nil
              refine step_append_in 33 _ _ rfl rfl (fun _ => trivial) rfl rfl hrun (hK _ _ ?_)
              clear hK K
              refine wpAnyIn_ready (rs := [7]) (by kernel_rfl) (by simp) ?_
              refine AllReadyIn.cons rfl (fun K hK => ?_) AllReadyIn.nil
              go_simp
              refine hK _ _ ?_
              clear hK K
              refine wpAnyIn_done (by kernel_rfl) ?_ _
              first | (show ownPostK _ _ _ _ _ Exit.normal _ _; rw [HW2.out]; exact END.out) | (rw [HW2.out]; exact END.out)
            · go_simp
              refine hK _ _ ?_
              clear hK K
              refine wpAnyIn_ready (rs := [0]) (by kernel_rfl) (by simp) ?_
              refine AllReadyIn.cons rfl (fun K hK => ?_) AllReadyIn.nil
              go_simp
              refine hK _ _ ?_
              clear hK K
              refine wpAnyIn_ready (rs := [6]) (by kernel_rfl) (by simp) ?_
              refine AllReadyIn.cons rfl (fun K hK => ?_) AllReadyIn.nil
              refine step_append_in 33 _ _ rfl rfl (fun _ => trivial) rfl rfl hrun (hK _ _ ?_)
              clear hK K
              refine wpAnyIn_ready (rs := [7]) (by kernel_rfl) (by simp) ?_
              refine AllReadyIn.cons rfl (fun K hK => ?_) AllReadyIn.nil
              go_simp
              refine hK _ _ ?_
              clear hK K
              refine wpAnyIn_done (by kernel_rfl) ?_ _
              first | (show ownPostK _ _ _ _ _ Exit.normal _ _; rw [HW2.out]; exact END.out) | (rw [HW2.out]; exact END.out)
    · go_simp
      refine hK _ _ ?_
      clear hK K
      refine wpAnyIn_ready (rs := [0, 1]) (by kernel_rfl) (by simp) ?_
      refine AllReadyIn.cons rfl (fun K hK => ?_) (AllReadyIn.cons rfl (fun K hK => ?_) AllReadyIn.nil)
      · go_simp
        refine hK _ _ ?_
        clear hK K
        refine wpAnyIn_ready (rs := [1]) (by kernel_rfl) (by simp) ?_
        refine AllReadyIn.cons rfl (fun K hK => ?_) AllReadyIn.nil
        go_simp
        refine hK _ _ ?_
        clear hK K
        refine wpAnyIn_ready (rs := [3]) (by kernel_rfl) (by simp) ?_
        refine AllReadyIn.cons rfl (fun K hK => ?_) AllReadyIn.nil
        go_simp
        refine hK _ _ ?_
        clear hK K
        refine wpAnyIn_ready (rs := [4]) (by kernel_rfl) (by simp) ?_
        refine AllReadyIn.cons rfl (fun K hK => ?_) AllReadyIn.nil
        go_simp
        refine hK _ _ ?_
        clear hK K
        refine wpAnyIn_ready (rs := [5]) (by kernel_rfl) (by simp) ?_
        refine AllReadyIn.cons rfl (fun K hK => ?_) AllReadyIn.nil
        go_simp
        refine hK _ _ ?_
        clear hK K
        refine wpAnyIn_ready (rs := [6]) (by kernel_rfl) (by simp) ?_
        refine AllReadyIn.cons rfl (fun K hK => ?_) AllReadyIn.nil
        refine step_append_in 33 _ _ rfl rfl (fun _ => trivial) rfl rfl hrun (hK _ _ ?_)
        clear hK K
        refine wpAnyIn_ready (rs := [7]) (by kernel_rfl) (by simp) ?_
        refine AllReadyIn.cons rfl (fun K hK => ?_) AllReadyIn.nil
        go_simp
        refine hK _ _ ?_
        clear hK K
        refine wpAnyIn_done (by kernel_rfl) ?_ _
        first | (show ownPostK _ _ _ _ _ Exit.normal _ _; rw [HW2.out]; exact END.out) | (rw [HW2.out]; exact END.out)
      · go_simp
        refine hK _ _ ?_
        clear hK K
        refine wpAnyIn_ready (rs := [0, 3]) (by kernel_rfl) (by simp) ?_
        refine AllReadyIn.cons rfl (fun K hK => ?_) (AllReadyIn.cons rfl (fun K hK => ?_) AllReadyIn.nil)
        · go_simp
          refine hK _ _ ?_
          clear hK K
          refine wpAnyIn_ready (rs := [3]) (by kernel_rfl) (by simp) ?_
          refine AllReadyIn.cons rfl (fun K hK => ?_) AllReadyIn.nil
          go_simp
          refine hK _ _ ?_
          clear hK K
          refine wpAnyIn_ready (rs := [4]) (by kernel_rfl) (by simp) ?_
          refine AllReadyIn.cons rfl (fun K hK => ?_) AllReadyIn.nil
          go_simp
          refine hK _ _ ?_
          clear hK K
          refine wpAnyIn_ready (rs := [5]) (by kernel_rfl) (by simp) ?_
          refine AllReadyIn.cons rfl (fun K hK => ?_) AllReadyIn.nil
          go_simp
          refine hK _ _ ?_
          clear hK K
          refine wpAnyIn_ready (rs := [6]) (by kernel_rfl) (by simp) ?_
          refine AllReadyIn.cons rfl (fun K hK => ?_) AllReadyIn.nil
          refine step_append_in 33 _ _ rfl rfl (fun _ => trivial) rfl rfl hrun (hK _ _ ?_)
          clear hK K
          refine wpAnyIn_ready (rs := [7]) (by kernel_rfl) (by simp) ?_
          refine AllReadyIn.cons rfl (fun K hK => ?_) AllReadyIn.nil
          go_simp
          refine hK _ _ ?_
          clear hK K
          refine wpAnyIn_done (by kernel_rfl) ?_ _
          first | (show ownPostK _ _ _ _ _ Exit.normal _ _; rw [HW2.out]; exact END.out) | (rw [HW2.out]; exact END.out)
        · go_simp
          refine hK _ _ ?_
          clear hK K
          refine wpAnyIn_ready (rs := [0, 4]) (by kernel_rfl) (by simp) ?_
          refine AllReadyIn.cons rfl (fun K hK => ?_) (AllReadyIn.cons rfl (fun K hK => ?_) AllReadyIn.nil)
          · go_simp
            refine hK _ _ ?_
            clear hK K
            refine wpAnyIn_ready (rs := [4]) (by kernel_rfl) (by simp) ?_
            refine AllReadyIn.cons rfl (fun K hK => ?_) AllReadyIn.nil
            go_simp
            refine hK _ _ ?_
            clear hK K
            refine wpAnyIn_ready (rs := [5]) (by kernel_rfl) (by simp) ?_
            refine AllReadyIn.cons rfl (fun K hK => ?_) AllReadyIn.nil
            go_simp
            refine hK _ _ ?_
            clear hK K
            refine wpAnyIn_ready (rs := [6]) (by kernel_rfl) (by simp) ?_
            refine AllReadyIn.cons rfl (fun K hK => ?_) AllReadyIn.nil
            refine step_append_in 33 _ _ rfl rfl (fun _ => trivial) rfl rfl hrun (hK _ _ ?_)
            clear hK K
            refine wpAnyIn_ready (rs := [7]) (by kernel_rfl) (by simp) ?_
            refine AllReadyIn.cons rfl (fun K hK => ?_) AllReadyIn.nil
            go_simp
            refine hK _ _ ?_
            clear hK K
            refine wpAnyIn_done (by kernel_rfl) ?_ _
            first | (show ownPostK _ _ _ _ _ Exit.normal _ _; rw [HW2.out]; exact END.out) | (rw [HW2.out]; exact END.out)
          · go_simp
            refine hK _ _ ?_
            clear hK K
            refine wpAnyIn_ready (rs := [0, 5]) (by kernel_rfl) (by simp) ?_
            refine AllReadyIn.cons rfl (fun K hK => ?_) (AllReadyIn.cons rfl (fun K hK => ?_) AllReadyIn.nil)
            · go_simp
              refine hK _ _ ?_
              clear hK K
              refine wpAnyIn_ready (rs := [5]) (by kernel_rfl) (by simp) ?_
              refine AllReadyIn.cons rfl (fun K hK => ?_) AllReadyIn.nil
              go_simp
              refine hK _ _ ?_
              clear hK K
              refine wpAnyIn_ready (rs := [6]) (by kernel_rfl) (by simp) ?_
              refine AllReadyIn.cons rfl (fun K hK => ?_) AllReadyIn.nil
              refine step_append_in 33 _ _ rfl rfl (fun _ => trivial) rfl rfl hrun (hK _ _ ?_)
              clear hK K
              refine wpAnyIn_ready (rs := [7]) (by kernel_rfl) (by simp) ?_
              refine AllReadyIn.cons rfl (fun K hK => ?_) AllReadyIn.nil
              go_simp
              refine hK _ _ ?_
              clear hK K
              refine wpAnyIn_done (by kernel_rfl) ?_ _
              first | (show ownPostK _ _ _ _ _ Exit.normal _ _; rw [HW2.out]; exact END.out) | (rw [HW2.out]; exact END.out)
            · go_simp
              refine hK _ _ ?_
              clear hK K
              refine wpAnyIn_ready (rs := [0]) (by kernel_rfl) (by simp) ?_
              refine AllReadyIn.cons rfl (fun K hK => ?_) AllReadyIn.nil
              go_simp
              refine hK _ _ ?_
              clear hK K
              refine wpAnyIn_ready (rs := [6]) (by kernel_rfl) (by simp) ?_
              refine AllReadyIn.cons rfl (fun K hK => ?_) AllReadyIn.nil
              refine step_append_in 33 _ _ rfl rfl (fun _ => trivial) rfl rfl hrun (hK _ _ ?_)
              clear hK K
              refine wpAnyIn_ready (rs := [7]) (by kernel_rfl) (by simp) ?_
              refine AllReadyIn.cons rfl (fun K hK => ?_) AllReadyIn.nil
              go_simp
              refine hK _ _ ?_
              clear hK K
              refine wpAnyIn_done (by kernel_rfl) ?_ _
              first | (show ownPostK _ _ _ _ _ Exit.normal _ _; rw [HW2.out]; exact END.out) | (rw [HW2.out]; exact END.out)
  case done =>
    rintro D ys W hD rfl ⟨⟨⟨v, hv, hrow, _⟩, hS⟩, hB⟩ hK
    have hbnd : ∀ z ∈ slotOf sl (raw (down R B day 5)), 0 ≤ z ∧ z ≤ 1000 := by
      intro z hz
      unfold slotOf raw at hz
      simp only [List.map_map, List.mem_map, Function.comp] at hz
      obtain ⟨x, hx, rfl⟩ := hz
      exact HBD.out x (down_mem _ _ _ _ _ hx)
    have hln5 : (slotOf sl (raw (down R B day 5))).length ≤ 5 := by unfold slotOf; rw [List.length_map, raw_len]; exact HL.out
    have hend : ∀ w', W = w' → Below w.heap.size w (w'.putObj D (.deferred none)) := fun w' e => by
      subst e; exact hB.trans (belowK_b (w := W0) hle W D _ _ hD hK rfl rfl)
    have HEND := Lib.hid hend
    clear hend hln HR HBD
    have hc := hv.cell
    generalize slotOf sl (raw (down R B day 5)) = L at *
    by_cases h5 : L.length < 5
    · have hVe : Hid (V = (0, 4)) := Lib.hid (by rw [hV.out]; unfold baseV; rw [if_pos h5])
      have hd : decide (L.length < 5) = true := decide_eq_true h5
      clear hV hbnd
      rcases hrow.2 with ⟨rfl, h0⟩ | ⟨g, cap, cur, rfl, _⟩
      · clear hrow
        gi_wp2
        refine ⟨by simp, .inl ⟨_, _, rfl, run_takeDeferred hK, ?_⟩⟩
        rw [hVe.out]
        exact ⟨_, results_tmp2 rfl _ _ _, rfl, HEND.out _ rfl⟩
      · clear hrow
        gi_wp2
        refine ⟨by simp, .inl ⟨_, _, rfl, run_takeDeferred hK, ?_⟩⟩
        rw [hVe.out]
        exact ⟨_, results_tmp2 rfl _ _ _, rfl, HEND.out _ rfl⟩
    · have hVe : Hid (V = (L.sum / 5, 0)) := Lib.hid (by rw [hV.out]; unfold baseV; rw [if_neg h5])
      have hd : decide (L.length < 5) = false := decide_eq_false h5
      rcases hrow.2 with ⟨rfl, h0⟩ | ⟨g, cap, cur, rfl, hg, hh, hnc, hcm, hcs, ht⟩
      · exact absurd h0 (by omega)
      · have hcell : ∀ i x, L[i]? = some x → ∃ ad, some (⟨g, 0, none⟩ : Addr) = some ad ∧ W.cell? (ad.add i) = some (.int .i64 x) := by
          intro i x hx
          refine ⟨_, rfl, ?_⟩
          have hil : i < L.length := (List.getElem?_eq_some_iff.1 hx).1
          rw [show (⟨g, 0, none⟩ : Addr).add i = ⟨g, i, none⟩ by unfold Addr.add; split <;> simp_all, cell_of_row W g i cur _ (0, 0) hh, ← Array.getElem?_toList]
          have h1 : (cur.toList.take (L.length * 1))[i]? = (L.map (Value.int .i64))[i]? := by rw [ht]
          rw [List.getElem?_take, if_pos (by omega), List.getElem?_map, hx] at h1
          exact h1
        have hsum := sum_any L (some ⟨g, 0, none⟩) cap W hcell hln5 hbnd
        have hs2 : 0 ≤ L.sum ∧ L.sum ≤ 5000 := by
          have : ∀ (l : List Int), (∀ z ∈ l, 0 ≤ z ∧ z ≤ 1000) → 0 ≤ l.sum ∧ l.sum ≤ 1000 * l.length := by
            intro l
            induction l with
            | nil => intro _; simp
            | cons a l ih =>
              intro h
              have h1 := ih (fun z hz => h z (List.mem_cons_of_mem _ hz))
              have h2 := h a (List.mem_cons_self ..)
              simp only [List.sum_cons, List.length_cons]
              omega
          have := this L hbnd
          omega
        generalize L.sum = S at *
        obtain ⟨S0, S1⟩ := hs2
        clear hrow hV hbnd hcell ht hh hcs hcm hnc
        gi_wp2_with (refine ⟨trivial, ?_⟩; gi_at_call 27; refine (callsIn_wide.2 hsum).mono ?_; rintro e w' ⟨rfl, rfl⟩)
        refine ⟨by simp, .inl ⟨_, _, rfl, run_takeDeferred hK, ?_⟩⟩
        rw [hVe.out]
        exact ⟨_, results_tmp2 rfl _ _ _, rfl, HEND.out _ rfl⟩
  case stop =>
    rintro D c pre W _ _ h _
    exact h.elim
end Go.Proofs.Ytakmioomcnnfjaa.Hand
