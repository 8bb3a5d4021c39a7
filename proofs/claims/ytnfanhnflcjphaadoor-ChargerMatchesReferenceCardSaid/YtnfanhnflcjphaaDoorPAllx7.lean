/- What the Go functions of this seat's laws return, told as Lean functions and proved by their walks; laid by a program of this session out of Lean's own print of the translation. No conditions of its own. -/
import Derived.Test.YtnfanhnflcjphaaDoorPAllx0
namespace Go.Proofs.YtnfanhnflcjphaaDoor.PAll
open Go.RowKit Go.Proofs.YtnfanhnflcjphaaDoorW.PrintWords Go.Proofs.YtnfanhnflcjphaaDoorW.PrintLast Go.Proofs.YtnfanhnflcjphaaDoorW.PrintMore
attribute [local go_sem] max2_int min2_int max_two min_two max_three min_three max_four min_four   -- for this text's walks alone
set_option linter.unusedVariables false
set_option linter.unusedSimpArgs false

/-! ### chargeparkref12_Charger: function 18 -/
def chargeparkref12_Charger.f (a0_0 : ByteArray) (a0_1 : Int) (a0_2 : Int) (a0_3 : Int) (a0_4 : Int) (a0_5 : Int) (a0_6 : Int) (a0_7 : Int) : Option (Bool) := if a0_2 < 1 then (some false) else (if a0_2 > 7 then (some false) else (if a0_3 < 1 then (some false) else (if a0_4 > 80 then (some false) else (if a0_3 > a0_4 then (some false) else (if a0_5 < 1 then (some false) else (if a0_5 > 80 then (some false) else (if a0_6 = 0 then (some true) else (if a0_6 ≥ a0_3 then (some (decide (a0_6 ≤ a0_4))) else (some false)))))))))
set_option maxHeartbeats 8000000 in
set_option maxRecDepth 100000 in
theorem chargeparkref12_Charger.calls (a0_0 : ByteArray) (a0_1 : Int) (a0_2 : Int) (a0_3 : Int) (a0_4 : Int) (a0_5 : Int) (a0_6 : Int) (a0_7 : Int) (r : Bool) (w : World) (h : chargeparkref12_Charger.f a0_0 a0_1 a0_2 a0_3 a0_4 a0_5 a0_6 a0_7 = some r) :
    Calls Tryd.prog 18 #[.agg #[.string a0_0, .int .i64 a0_1, .int .i64 a0_2, .int .i64 a0_3, .int .i64 a0_4, .int .i64 a0_5, .int .i64 a0_6, .int .i64 a0_7]] w fun e w' => e = .returned (.bool r) ∧ Below w.heap.size w w' := by
  have hu23 := Tryd.underlying23
  have HB := Aside0.mk (Below.refl w.heap.size w)
  have H : (if a0_2 < 1 then (some false) else (if a0_2 > 7 then (some false) else (if a0_3 < 1 then (some false) else (if a0_4 > 80 then (some false) else (if a0_3 > a0_4 then (some false) else (if a0_5 < 1 then (some false) else (if a0_5 > 80 then (some false) else (if a0_6 = 0 then (some true) else (if a0_6 ≥ a0_3 then (some (decide (a0_6 ≤ a0_4))) else (some false)))))))))) = some r := h
  clear h
  by_cases c2 : a0_2 < 1
  · rw [if_pos c2] at H
    have c2b0 : decide (a0_2 < 1) = true := decide_eq_true c2
    clear c2
    obtain rfl := Option.some.inj H
    simp only [Option.some.injEq, Prod.mk.injEq] at H
    obtain ⟨rfl⟩ := H
    go_enter Tryd.func18, Tryd.ntmps18
    go_wp2_with (first | ((with_reducible refine gate_dst (N := 1) rfl ?_); refine box_event ?hg (N := 1) ?hd (cs := #[.string a0_0, .int .i64 a0_1, .int .i64 a0_2, .int .i64 a0_3, .int .i64 a0_4, .int .i64 a0_5, .int .i64 a0_6, .int .i64 a0_7]) (t := 23) ?hr ?_; (case hd => rfl); (case hg => rfl); (case hr => first | (go_simp; done) | (go_simp; rfl)); intro gb207 hg w3 hbox hb; have n0_ := Aside0.mk (below_step (by repeat (first | (with_reducible first | exact HB.out | apply below_alloc | apply pw_below_drewN | apply below_drew1) | exact HB.out)) hb); have n1_ := Aside0.mk (hbox); have n2_ := Aside0.mk ((by rw [hg]; exact (below_size (by repeat (first | (with_reducible first | exact HB.out | apply below_alloc | apply pw_below_drewN | apply below_drew1) | exact HB.out))) : w.heap.size ≤ gb207)); have n3_ := Aside0.mk ((by rw [hg]; exact (below_size (by repeat (first | (with_reducible first | exact HB.out | apply below_alloc | apply pw_below_drewN | apply below_drew1) | exact HB.out))) : w.heap.size ≤ gb207)); clear HB; have HB := n0_; have BK207 := n1_; have GW207 := n2_; have GE207 := n3_; clear n0_ n1_ n2_ n3_; clear hb hbox hg; have hcz4_0 : w3.cell? ⟨gb207, 0, none⟩ = some (.string a0_0) := (blk_cell BK207.out 0).trans rfl; have hcz4_1 : w3.cell? ⟨gb207, 1, none⟩ = some (.int .i64 a0_1) := (blk_cell BK207.out 1).trans rfl; have hcz4_2 : w3.cell? ⟨gb207, 2, none⟩ = some (.int .i64 a0_2) := (blk_cell BK207.out 2).trans rfl; have hcz4_3 : w3.cell? ⟨gb207, 3, none⟩ = some (.int .i64 a0_3) := (blk_cell BK207.out 3).trans rfl; have hcz4_4 : w3.cell? ⟨gb207, 4, none⟩ = some (.int .i64 a0_4) := (blk_cell BK207.out 4).trans rfl; have hcz4_5 : w3.cell? ⟨gb207, 5, none⟩ = some (.int .i64 a0_5) := (blk_cell BK207.out 5).trans rfl; have hcz4_6 : w3.cell? ⟨gb207, 6, none⟩ = some (.int .i64 a0_6) := (blk_cell BK207.out 6).trans rfl; have hcz4_7 : w3.cell? ⟨gb207, 7, none⟩ = some (.int .i64 a0_7) := (blk_cell BK207.out 7).trans rfl; have hfz4_0 := blk_frozen BK207.out 0; have hfz4_1 := blk_frozen BK207.out 1; have hfz4_2 := blk_frozen BK207.out 2; have hfz4_3 := blk_frozen BK207.out 3; have hfz4_4 := blk_frozen BK207.out 4; have hfz4_5 := blk_frozen BK207.out 5; have hfz4_6 := blk_frozen BK207.out 6; have hfz4_7 := blk_frozen BK207.out 7))
    go_ret
    exact ⟨by first | rfl | (simp [errW_none, errW_some] <;> rfl) | (simp [*, errW_none, errW_some] <;> rfl), by repeat (first | (with_reducible first | exact HB.out | apply below_alloc | apply pw_below_drewN | apply below_drew1 | refine below_set ?_ GE207.out) | exact HB.out)⟩
  · rw [if_neg c2] at H
    have c2b0 : decide (a0_2 < 1) = false := decide_eq_false c2
    clear c2
    by_cases c5 : a0_2 > 7
    · rw [if_pos c5] at H
      have c5b0 : decide (7 < a0_2) = true := decide_eq_true c5
      clear c5
      obtain rfl := Option.some.inj H
      simp only [Option.some.injEq, Prod.mk.injEq] at H
      obtain ⟨rfl⟩ := H
      go_enter Tryd.func18, Tryd.ntmps18
      go_wp2_with (first | ((with_reducible refine gate_dst (N := 1) rfl ?_); refine box_event ?hg (N := 1) ?hd (cs := #[.string a0_0, .int .i64 a0_1, .int .i64 a0_2, .int .i64 a0_3, .int .i64 a0_4, .int .i64 a0_5, .int .i64 a0_6, .int .i64 a0_7]) (t := 23) ?hr ?_; (case hd => rfl); (case hg => rfl); (case hr => first | (go_simp; done) | (go_simp; rfl)); intro gb207 hg w6 hbox hb; have n0_ := Aside0.mk (below_step (by repeat (first | (with_reducible first | exact HB.out | apply below_alloc | apply pw_below_drewN | apply below_drew1) | exact HB.out)) hb); have n1_ := Aside0.mk (hbox); have n2_ := Aside0.mk ((by rw [hg]; exact (below_size (by repeat (first | (with_reducible first | exact HB.out | apply below_alloc | apply pw_below_drewN | apply below_drew1) | exact HB.out))) : w.heap.size ≤ gb207)); have n3_ := Aside0.mk ((by rw [hg]; exact (below_size (by repeat (first | (with_reducible first | exact HB.out | apply below_alloc | apply pw_below_drewN | apply below_drew1) | exact HB.out))) : w.heap.size ≤ gb207)); clear HB; have HB := n0_; have BK207 := n1_; have GW207 := n2_; have GE207 := n3_; clear n0_ n1_ n2_ n3_; clear hb hbox hg; have hcz7_0 : w6.cell? ⟨gb207, 0, none⟩ = some (.string a0_0) := (blk_cell BK207.out 0).trans rfl; have hcz7_1 : w6.cell? ⟨gb207, 1, none⟩ = some (.int .i64 a0_1) := (blk_cell BK207.out 1).trans rfl; have hcz7_2 : w6.cell? ⟨gb207, 2, none⟩ = some (.int .i64 a0_2) := (blk_cell BK207.out 2).trans rfl; have hcz7_3 : w6.cell? ⟨gb207, 3, none⟩ = some (.int .i64 a0_3) := (blk_cell BK207.out 3).trans rfl; have hcz7_4 : w6.cell? ⟨gb207, 4, none⟩ = some (.int .i64 a0_4) := (blk_cell BK207.out 4).trans rfl; have hcz7_5 : w6.cell? ⟨gb207, 5, none⟩ = some (.int .i64 a0_5) := (blk_cell BK207.out 5).trans rfl; have hcz7_6 : w6.cell? ⟨gb207, 6, none⟩ = some (.int .i64 a0_6) := (blk_cell BK207.out 6).trans rfl; have hcz7_7 : w6.cell? ⟨gb207, 7, none⟩ = some (.int .i64 a0_7) := (blk_cell BK207.out 7).trans rfl; have hfz7_0 := blk_frozen BK207.out 0; have hfz7_1 := blk_frozen BK207.out 1; have hfz7_2 := blk_frozen BK207.out 2; have hfz7_3 := blk_frozen BK207.out 3; have hfz7_4 := blk_frozen BK207.out 4; have hfz7_5 := blk_frozen BK207.out 5; have hfz7_6 := blk_frozen BK207.out 6; have hfz7_7 := blk_frozen BK207.out 7))
      go_ret
      exact ⟨by first | rfl | (simp [errW_none, errW_some] <;> rfl) | (simp [*, errW_none, errW_some] <;> rfl), by repeat (first | (with_reducible first | exact HB.out | apply below_alloc | apply pw_below_drewN | apply below_drew1 | refine below_set ?_ GE207.out) | exact HB.out)⟩
    · rw [if_neg c5] at H
      have c5b0 : decide (7 < a0_2) = false := decide_eq_false c5
      clear c5
      by_cases c8 : a0_3 < 1
      · rw [if_pos c8] at H
        have c8b0 : decide (a0_3 < 1) = true := decide_eq_true c8
        clear c8
        obtain rfl := Option.some.inj H
        simp only [Option.some.injEq, Prod.mk.injEq] at H
        obtain ⟨rfl⟩ := H
        go_enter Tryd.func18, Tryd.ntmps18
        go_wp2_with (first | ((with_reducible refine gate_dst (N := 1) rfl ?_); refine box_event ?hg (N := 1) ?hd (cs := #[.string a0_0, .int .i64 a0_1, .int .i64 a0_2, .int .i64 a0_3, .int .i64 a0_4, .int .i64 a0_5, .int .i64 a0_6, .int .i64 a0_7]) (t := 23) ?hr ?_; (case hd => rfl); (case hg => rfl); (case hr => first | (go_simp; done) | (go_simp; rfl)); intro gb207 hg w9 hbox hb; have n0_ := Aside0.mk (below_step (by repeat (first | (with_reducible first | exact HB.out | apply below_alloc | apply pw_below_drewN | apply below_drew1) | exact HB.out)) hb); have n1_ := Aside0.mk (hbox); have n2_ := Aside0.mk ((by rw [hg]; exact (below_size (by repeat (first | (with_reducible first | exact HB.out | apply below_alloc | apply pw_below_drewN | apply below_drew1) | exact HB.out))) : w.heap.size ≤ gb207)); have n3_ := Aside0.mk ((by rw [hg]; exact (below_size (by repeat (first | (with_reducible first | exact HB.out | apply below_alloc | apply pw_below_drewN | apply below_drew1) | exact HB.out))) : w.heap.size ≤ gb207)); clear HB; have HB := n0_; have BK207 := n1_; have GW207 := n2_; have GE207 := n3_; clear n0_ n1_ n2_ n3_; clear hb hbox hg; have hcz10_0 : w9.cell? ⟨gb207, 0, none⟩ = some (.string a0_0) := (blk_cell BK207.out 0).trans rfl; have hcz10_1 : w9.cell? ⟨gb207, 1, none⟩ = some (.int .i64 a0_1) := (blk_cell BK207.out 1).trans rfl; have hcz10_2 : w9.cell? ⟨gb207, 2, none⟩ = some (.int .i64 a0_2) := (blk_cell BK207.out 2).trans rfl; have hcz10_3 : w9.cell? ⟨gb207, 3, none⟩ = some (.int .i64 a0_3) := (blk_cell BK207.out 3).trans rfl; have hcz10_4 : w9.cell? ⟨gb207, 4, none⟩ = some (.int .i64 a0_4) := (blk_cell BK207.out 4).trans rfl; have hcz10_5 : w9.cell? ⟨gb207, 5, none⟩ = some (.int .i64 a0_5) := (blk_cell BK207.out 5).trans rfl; have hcz10_6 : w9.cell? ⟨gb207, 6, none⟩ = some (.int .i64 a0_6) := (blk_cell BK207.out 6).trans rfl; have hcz10_7 : w9.cell? ⟨gb207, 7, none⟩ = some (.int .i64 a0_7) := (blk_cell BK207.out 7).trans rfl; have hfz10_0 := blk_frozen BK207.out 0; have hfz10_1 := blk_frozen BK207.out 1; have hfz10_2 := blk_frozen BK207.out 2; have hfz10_3 := blk_frozen BK207.out 3; have hfz10_4 := blk_frozen BK207.out 4; have hfz10_5 := blk_frozen BK207.out 5; have hfz10_6 := blk_frozen BK207.out 6; have hfz10_7 := blk_frozen BK207.out 7))
        go_ret
        exact ⟨by first | rfl | (simp [errW_none, errW_some] <;> rfl) | (simp [*, errW_none, errW_some] <;> rfl), by repeat (first | (with_reducible first | exact HB.out | apply below_alloc | apply pw_below_drewN | apply below_drew1 | refine below_set ?_ GE207.out) | exact HB.out)⟩
      · rw [if_neg c8] at H
        have c8b0 : decide (a0_3 < 1) = false := decide_eq_false c8
        clear c8
        by_cases c11 : a0_4 > 80
        · rw [if_pos c11] at H
          have c11b0 : decide (80 < a0_4) = true := decide_eq_true c11
          clear c11
          obtain rfl := Option.some.inj H
          simp only [Option.some.injEq, Prod.mk.injEq] at H
          obtain ⟨rfl⟩ := H
          go_enter Tryd.func18, Tryd.ntmps18
          go_wp2_with (first | ((with_reducible refine gate_dst (N := 1) rfl ?_); refine box_event ?hg (N := 1) ?hd (cs := #[.string a0_0, .int .i64 a0_1, .int .i64 a0_2, .int .i64 a0_3, .int .i64 a0_4, .int .i64 a0_5, .int .i64 a0_6, .int .i64 a0_7]) (t := 23) ?hr ?_; (case hd => rfl); (case hg => rfl); (case hr => first | (go_simp; done) | (go_simp; rfl)); intro gb207 hg w12 hbox hb; have n0_ := Aside0.mk (below_step (by repeat (first | (with_reducible first | exact HB.out | apply below_alloc | apply pw_below_drewN | apply below_drew1) | exact HB.out)) hb); have n1_ := Aside0.mk (hbox); have n2_ := Aside0.mk ((by rw [hg]; exact (below_size (by repeat (first | (with_reducible first | exact HB.out | apply below_alloc | apply pw_below_drewN | apply below_drew1) | exact HB.out))) : w.heap.size ≤ gb207)); have n3_ := Aside0.mk ((by rw [hg]; exact (below_size (by repeat (first | (with_reducible first | exact HB.out | apply below_alloc | apply pw_below_drewN | apply below_drew1) | exact HB.out))) : w.heap.size ≤ gb207)); clear HB; have HB := n0_; have BK207 := n1_; have GW207 := n2_; have GE207 := n3_; clear n0_ n1_ n2_ n3_; clear hb hbox hg; have hcz13_0 : w12.cell? ⟨gb207, 0, none⟩ = some (.string a0_0) := (blk_cell BK207.out 0).trans rfl; have hcz13_1 : w12.cell? ⟨gb207, 1, none⟩ = some (.int .i64 a0_1) := (blk_cell BK207.out 1).trans rfl; have hcz13_2 : w12.cell? ⟨gb207, 2, none⟩ = some (.int .i64 a0_2) := (blk_cell BK207.out 2).trans rfl; have hcz13_3 : w12.cell? ⟨gb207, 3, none⟩ = some (.int .i64 a0_3) := (blk_cell BK207.out 3).trans rfl; have hcz13_4 : w12.cell? ⟨gb207, 4, none⟩ = some (.int .i64 a0_4) := (blk_cell BK207.out 4).trans rfl; have hcz13_5 : w12.cell? ⟨gb207, 5, none⟩ = some (.int .i64 a0_5) := (blk_cell BK207.out 5).trans rfl; have hcz13_6 : w12.cell? ⟨gb207, 6, none⟩ = some (.int .i64 a0_6) := (blk_cell BK207.out 6).trans rfl; have hcz13_7 : w12.cell? ⟨gb207, 7, none⟩ = some (.int .i64 a0_7) := (blk_cell BK207.out 7).trans rfl; have hfz13_0 := blk_frozen BK207.out 0; have hfz13_1 := blk_frozen BK207.out 1; have hfz13_2 := blk_frozen BK207.out 2; have hfz13_3 := blk_frozen BK207.out 3; have hfz13_4 := blk_frozen BK207.out 4; have hfz13_5 := blk_frozen BK207.out 5; have hfz13_6 := blk_frozen BK207.out 6; have hfz13_7 := blk_frozen BK207.out 7))
          go_ret
          exact ⟨by first | rfl | (simp [errW_none, errW_some] <;> rfl) | (simp [*, errW_none, errW_some] <;> rfl), by repeat (first | (with_reducible first | exact HB.out | apply below_alloc | apply pw_below_drewN | apply below_drew1 | refine below_set ?_ GE207.out) | exact HB.out)⟩
        · rw [if_neg c11] at H
          have c11b0 : decide (80 < a0_4) = false := decide_eq_false c11
          clear c11
          by_cases c14 : a0_3 > a0_4
          · rw [if_pos c14] at H
            have c14b0 : decide (a0_4 < a0_3) = true := decide_eq_true c14
            clear c14
            obtain rfl := Option.some.inj H
            simp only [Option.some.injEq, Prod.mk.injEq] at H
            obtain ⟨rfl⟩ := H
            go_enter Tryd.func18, Tryd.ntmps18
            go_wp2_with (first | ((with_reducible refine gate_dst (N := 1) rfl ?_); refine box_event ?hg (N := 1) ?hd (cs := #[.string a0_0, .int .i64 a0_1, .int .i64 a0_2, .int .i64 a0_3, .int .i64 a0_4, .int .i64 a0_5, .int .i64 a0_6, .int .i64 a0_7]) (t := 23) ?hr ?_; (case hd => rfl); (case hg => rfl); (case hr => first | (go_simp; done) | (go_simp; rfl)); intro gb207 hg w15 hbox hb; have n0_ := Aside0.mk (below_step (by repeat (first | (with_reducible first | exact HB.out | apply below_alloc | apply pw_below_drewN | apply below_drew1) | exact HB.out)) hb); have n1_ := Aside0.mk (hbox); have n2_ := Aside0.mk ((by rw [hg]; exact (below_size (by repeat (first | (with_reducible first | exact HB.out | apply below_alloc | apply pw_below_drewN | apply below_drew1) | exact HB.out))) : w.heap.size ≤ gb207)); have n3_ := Aside0.mk ((by rw [hg]; exact (below_size (by repeat (first | (with_reducible first | exact HB.out | apply below_alloc | apply pw_below_drewN | apply below_drew1) | exact HB.out))) : w.heap.size ≤ gb207)); clear HB; have HB := n0_; have BK207 := n1_; have GW207 := n2_; have GE207 := n3_; clear n0_ n1_ n2_ n3_; clear hb hbox hg; have hcz16_0 : w15.cell? ⟨gb207, 0, none⟩ = some (.string a0_0) := (blk_cell BK207.out 0).trans rfl; have hcz16_1 : w15.cell? ⟨gb207, 1, none⟩ = some (.int .i64 a0_1) := (blk_cell BK207.out 1).trans rfl; have hcz16_2 : w15.cell? ⟨gb207, 2, none⟩ = some (.int .i64 a0_2) := (blk_cell BK207.out 2).trans rfl; have hcz16_3 : w15.cell? ⟨gb207, 3, none⟩ = some (.int .i64 a0_3) := (blk_cell BK207.out 3).trans rfl; have hcz16_4 : w15.cell? ⟨gb207, 4, none⟩ = some (.int .i64 a0_4) := (blk_cell BK207.out 4).trans rfl; have hcz16_5 : w15.cell? ⟨gb207, 5, none⟩ = some (.int .i64 a0_5) := (blk_cell BK207.out 5).trans rfl; have hcz16_6 : w15.cell? ⟨gb207, 6, none⟩ = some (.int .i64 a0_6) := (blk_cell BK207.out 6).trans rfl; have hcz16_7 : w15.cell? ⟨gb207, 7, none⟩ = some (.int .i64 a0_7) := (blk_cell BK207.out 7).trans rfl; have hfz16_0 := blk_frozen BK207.out 0; have hfz16_1 := blk_frozen BK207.out 1; have hfz16_2 := blk_frozen BK207.out 2; have hfz16_3 := blk_frozen BK207.out 3; have hfz16_4 := blk_frozen BK207.out 4; have hfz16_5 := blk_frozen BK207.out 5; have hfz16_6 := blk_frozen BK207.out 6; have hfz16_7 := blk_frozen BK207.out 7))
            go_ret
            exact ⟨by first | rfl | (simp [errW_none, errW_some] <;> rfl) | (simp [*, errW_none, errW_some] <;> rfl), by repeat (first | (with_reducible first | exact HB.out | apply below_alloc | apply pw_below_drewN | apply below_drew1 | refine below_set ?_ GE207.out) | exact HB.out)⟩
          · rw [if_neg c14] at H
            have c14b0 : decide (a0_4 < a0_3) = false := decide_eq_false c14
            clear c14
            by_cases c17 : a0_5 < 1
            · rw [if_pos c17] at H
              have c17b0 : decide (a0_5 < 1) = true := decide_eq_true c17
              clear c17
              obtain rfl := Option.some.inj H
              simp only [Option.some.injEq, Prod.mk.injEq] at H
              obtain ⟨rfl⟩ := H
              go_enter Tryd.func18, Tryd.ntmps18
              go_wp2_with (first | ((with_reducible refine gate_dst (N := 1) rfl ?_); refine box_event ?hg (N := 1) ?hd (cs := #[.string a0_0, .int .i64 a0_1, .int .i64 a0_2, .int .i64 a0_3, .int .i64 a0_4, .int .i64 a0_5, .int .i64 a0_6, .int .i64 a0_7]) (t := 23) ?hr ?_; (case hd => rfl); (case hg => rfl); (case hr => first | (go_simp; done) | (go_simp; rfl)); intro gb207 hg w18 hbox hb; have n0_ := Aside0.mk (below_step (by repeat (first | (with_reducible first | exact HB.out | apply below_alloc | apply pw_below_drewN | apply below_drew1) | exact HB.out)) hb); have n1_ := Aside0.mk (hbox); have n2_ := Aside0.mk ((by rw [hg]; exact (below_size (by repeat (first | (with_reducible first | exact HB.out | apply below_alloc | apply pw_below_drewN | apply below_drew1) | exact HB.out))) : w.heap.size ≤ gb207)); have n3_ := Aside0.mk ((by rw [hg]; exact (below_size (by repeat (first | (with_reducible first | exact HB.out | apply below_alloc | apply pw_below_drewN | apply below_drew1) | exact HB.out))) : w.heap.size ≤ gb207)); clear HB; have HB := n0_; have BK207 := n1_; have GW207 := n2_; have GE207 := n3_; clear n0_ n1_ n2_ n3_; clear hb hbox hg; have hcz19_0 : w18.cell? ⟨gb207, 0, none⟩ = some (.string a0_0) := (blk_cell BK207.out 0).trans rfl; have hcz19_1 : w18.cell? ⟨gb207, 1, none⟩ = some (.int .i64 a0_1) := (blk_cell BK207.out 1).trans rfl; have hcz19_2 : w18.cell? ⟨gb207, 2, none⟩ = some (.int .i64 a0_2) := (blk_cell BK207.out 2).trans rfl; have hcz19_3 : w18.cell? ⟨gb207, 3, none⟩ = some (.int .i64 a0_3) := (blk_cell BK207.out 3).trans rfl; have hcz19_4 : w18.cell? ⟨gb207, 4, none⟩ = some (.int .i64 a0_4) := (blk_cell BK207.out 4).trans rfl; have hcz19_5 : w18.cell? ⟨gb207, 5, none⟩ = some (.int .i64 a0_5) := (blk_cell BK207.out 5).trans rfl; have hcz19_6 : w18.cell? ⟨gb207, 6, none⟩ = some (.int .i64 a0_6) := (blk_cell BK207.out 6).trans rfl; have hcz19_7 : w18.cell? ⟨gb207, 7, none⟩ = some (.int .i64 a0_7) := (blk_cell BK207.out 7).trans rfl; have hfz19_0 := blk_frozen BK207.out 0; have hfz19_1 := blk_frozen BK207.out 1; have hfz19_2 := blk_frozen BK207.out 2; have hfz19_3 := blk_frozen BK207.out 3; have hfz19_4 := blk_frozen BK207.out 4; have hfz19_5 := blk_frozen BK207.out 5; have hfz19_6 := blk_frozen BK207.out 6; have hfz19_7 := blk_frozen BK207.out 7))
              go_ret
              exact ⟨by first | rfl | (simp [errW_none, errW_some] <;> rfl) | (simp [*, errW_none, errW_some] <;> rfl), by repeat (first | (with_reducible first | exact HB.out | apply below_alloc | apply pw_below_drewN | apply below_drew1 | refine below_set ?_ GE207.out) | exact HB.out)⟩
            · rw [if_neg c17] at H
              have c17b0 : decide (a0_5 < 1) = false := decide_eq_false c17
              clear c17
              by_cases c20 : a0_5 > 80
              · rw [if_pos c20] at H
                have c20b0 : decide (80 < a0_5) = true := decide_eq_true c20
                clear c20
                obtain rfl := Option.some.inj H
                simp only [Option.some.injEq, Prod.mk.injEq] at H
                obtain ⟨rfl⟩ := H
                go_enter Tryd.func18, Tryd.ntmps18
                go_wp2_with (first | ((with_reducible refine gate_dst (N := 1) rfl ?_); refine box_event ?hg (N := 1) ?hd (cs := #[.string a0_0, .int .i64 a0_1, .int .i64 a0_2, .int .i64 a0_3, .int .i64 a0_4, .int .i64 a0_5, .int .i64 a0_6, .int .i64 a0_7]) (t := 23) ?hr ?_; (case hd => rfl); (case hg => rfl); (case hr => first | (go_simp; done) | (go_simp; rfl)); intro gb207 hg w21 hbox hb; have n0_ := Aside0.mk (below_step (by repeat (first | (with_reducible first | exact HB.out | apply below_alloc | apply pw_below_drewN | apply below_drew1) | exact HB.out)) hb); have n1_ := Aside0.mk (hbox); have n2_ := Aside0.mk ((by rw [hg]; exact (below_size (by repeat (first | (with_reducible first | exact HB.out | apply below_alloc | apply pw_below_drewN | apply below_drew1) | exact HB.out))) : w.heap.size ≤ gb207)); have n3_ := Aside0.mk ((by rw [hg]; exact (below_size (by repeat (first | (with_reducible first | exact HB.out | apply below_alloc | apply pw_below_drewN | apply below_drew1) | exact HB.out))) : w.heap.size ≤ gb207)); clear HB; have HB := n0_; have BK207 := n1_; have GW207 := n2_; have GE207 := n3_; clear n0_ n1_ n2_ n3_; clear hb hbox hg; have hcz22_0 : w21.cell? ⟨gb207, 0, none⟩ = some (.string a0_0) := (blk_cell BK207.out 0).trans rfl; have hcz22_1 : w21.cell? ⟨gb207, 1, none⟩ = some (.int .i64 a0_1) := (blk_cell BK207.out 1).trans rfl; have hcz22_2 : w21.cell? ⟨gb207, 2, none⟩ = some (.int .i64 a0_2) := (blk_cell BK207.out 2).trans rfl; have hcz22_3 : w21.cell? ⟨gb207, 3, none⟩ = some (.int .i64 a0_3) := (blk_cell BK207.out 3).trans rfl; have hcz22_4 : w21.cell? ⟨gb207, 4, none⟩ = some (.int .i64 a0_4) := (blk_cell BK207.out 4).trans rfl; have hcz22_5 : w21.cell? ⟨gb207, 5, none⟩ = some (.int .i64 a0_5) := (blk_cell BK207.out 5).trans rfl; have hcz22_6 : w21.cell? ⟨gb207, 6, none⟩ = some (.int .i64 a0_6) := (blk_cell BK207.out 6).trans rfl; have hcz22_7 : w21.cell? ⟨gb207, 7, none⟩ = some (.int .i64 a0_7) := (blk_cell BK207.out 7).trans rfl; have hfz22_0 := blk_frozen BK207.out 0; have hfz22_1 := blk_frozen BK207.out 1; have hfz22_2 := blk_frozen BK207.out 2; have hfz22_3 := blk_frozen BK207.out 3; have hfz22_4 := blk_frozen BK207.out 4; have hfz22_5 := blk_frozen BK207.out 5; have hfz22_6 := blk_frozen BK207.out 6; have hfz22_7 := blk_frozen BK207.out 7))
                go_ret
                exact ⟨by first | rfl | (simp [errW_none, errW_some] <;> rfl) | (simp [*, errW_none, errW_some] <;> rfl), by repeat (first | (with_reducible first | exact HB.out | apply below_alloc | apply pw_below_drewN | apply below_drew1 | refine below_set ?_ GE207.out) | exact HB.out)⟩
              · rw [if_neg c20] at H
                have c20b0 : decide (80 < a0_5) = false := decide_eq_false c20
                clear c20
                by_cases c23 : a0_6 = 0
                · rw [if_pos c23] at H
                  have c23b0 : (a0_6 == 0) = true := beq_iff_eq.mpr c23
                  have c23b1 : (a0_6 != 0) = false := bne_eq_false_iff_eq.mpr c23
                  clear c23
                  obtain rfl := Option.some.inj H
                  simp only [Option.some.injEq, Prod.mk.injEq] at H
                  obtain ⟨rfl⟩ := H
                  go_enter Tryd.func18, Tryd.ntmps18
                  go_wp2_with (first | ((with_reducible refine gate_dst (N := 1) rfl ?_); refine box_event ?hg (N := 1) ?hd (cs := #[.string a0_0, .int .i64 a0_1, .int .i64 a0_2, .int .i64 a0_3, .int .i64 a0_4, .int .i64 a0_5, .int .i64 a0_6, .int .i64 a0_7]) (t := 23) ?hr ?_; (case hd => rfl); (case hg => rfl); (case hr => first | (go_simp; done) | (go_simp; rfl)); intro gb207 hg w24 hbox hb; have n0_ := Aside0.mk (below_step (by repeat (first | (with_reducible first | exact HB.out | apply below_alloc | apply pw_below_drewN | apply below_drew1) | exact HB.out)) hb); have n1_ := Aside0.mk (hbox); have n2_ := Aside0.mk ((by rw [hg]; exact (below_size (by repeat (first | (with_reducible first | exact HB.out | apply below_alloc | apply pw_below_drewN | apply below_drew1) | exact HB.out))) : w.heap.size ≤ gb207)); have n3_ := Aside0.mk ((by rw [hg]; exact (below_size (by repeat (first | (with_reducible first | exact HB.out | apply below_alloc | apply pw_below_drewN | apply below_drew1) | exact HB.out))) : w.heap.size ≤ gb207)); clear HB; have HB := n0_; have BK207 := n1_; have GW207 := n2_; have GE207 := n3_; clear n0_ n1_ n2_ n3_; clear hb hbox hg; have hcz25_0 : w24.cell? ⟨gb207, 0, none⟩ = some (.string a0_0) := (blk_cell BK207.out 0).trans rfl; have hcz25_1 : w24.cell? ⟨gb207, 1, none⟩ = some (.int .i64 a0_1) := (blk_cell BK207.out 1).trans rfl; have hcz25_2 : w24.cell? ⟨gb207, 2, none⟩ = some (.int .i64 a0_2) := (blk_cell BK207.out 2).trans rfl; have hcz25_3 : w24.cell? ⟨gb207, 3, none⟩ = some (.int .i64 a0_3) := (blk_cell BK207.out 3).trans rfl; have hcz25_4 : w24.cell? ⟨gb207, 4, none⟩ = some (.int .i64 a0_4) := (blk_cell BK207.out 4).trans rfl; have hcz25_5 : w24.cell? ⟨gb207, 5, none⟩ = some (.int .i64 a0_5) := (blk_cell BK207.out 5).trans rfl; have hcz25_6 : w24.cell? ⟨gb207, 6, none⟩ = some (.int .i64 a0_6) := (blk_cell BK207.out 6).trans rfl; have hcz25_7 : w24.cell? ⟨gb207, 7, none⟩ = some (.int .i64 a0_7) := (blk_cell BK207.out 7).trans rfl; have hfz25_0 := blk_frozen BK207.out 0; have hfz25_1 := blk_frozen BK207.out 1; have hfz25_2 := blk_frozen BK207.out 2; have hfz25_3 := blk_frozen BK207.out 3; have hfz25_4 := blk_frozen BK207.out 4; have hfz25_5 := blk_frozen BK207.out 5; have hfz25_6 := blk_frozen BK207.out 6; have hfz25_7 := blk_frozen BK207.out 7))
                  go_ret
                  exact ⟨by first | rfl | (simp [errW_none, errW_some] <;> rfl) | (simp [*, errW_none, errW_some] <;> rfl), by repeat (first | (with_reducible first | exact HB.out | apply below_alloc | apply pw_below_drewN | apply below_drew1 | refine below_set ?_ GE207.out) | exact HB.out)⟩
                · rw [if_neg c23] at H
                  have c23b0 : (a0_6 == 0) = false := beq_eq_false_iff_ne.mpr c23
                  have c23b1 : (a0_6 != 0) = true := bne_iff_ne.mpr c23
                  by_cases c26 : a0_6 ≥ a0_3
                  · rw [if_pos c26] at H
                    have c26b0 : decide (a0_3 ≤ a0_6) = true := decide_eq_true c26
                    clear c26
                    obtain rfl := Option.some.inj H
                    simp only [Option.some.injEq, Prod.mk.injEq] at H
                    obtain ⟨rfl⟩ := H
                    go_enter Tryd.func18, Tryd.ntmps18
                    go_wp2_with (first | ((with_reducible refine gate_dst (N := 1) rfl ?_); refine box_event ?hg (N := 1) ?hd (cs := #[.string a0_0, .int .i64 a0_1, .int .i64 a0_2, .int .i64 a0_3, .int .i64 a0_4, .int .i64 a0_5, .int .i64 a0_6, .int .i64 a0_7]) (t := 23) ?hr ?_; (case hd => rfl); (case hg => rfl); (case hr => first | (go_simp; done) | (go_simp; rfl)); intro gb207 hg w27 hbox hb; have n0_ := Aside0.mk (below_step (by repeat (first | (with_reducible first | exact HB.out | apply below_alloc | apply pw_below_drewN | apply below_drew1) | exact HB.out)) hb); have n1_ := Aside0.mk (hbox); have n2_ := Aside0.mk ((by rw [hg]; exact (below_size (by repeat (first | (with_reducible first | exact HB.out | apply below_alloc | apply pw_below_drewN | apply below_drew1) | exact HB.out))) : w.heap.size ≤ gb207)); have n3_ := Aside0.mk ((by rw [hg]; exact (below_size (by repeat (first | (with_reducible first | exact HB.out | apply below_alloc | apply pw_below_drewN | apply below_drew1) | exact HB.out))) : w.heap.size ≤ gb207)); clear HB; have HB := n0_; have BK207 := n1_; have GW207 := n2_; have GE207 := n3_; clear n0_ n1_ n2_ n3_; clear hb hbox hg; have hcz28_0 : w27.cell? ⟨gb207, 0, none⟩ = some (.string a0_0) := (blk_cell BK207.out 0).trans rfl; have hcz28_1 : w27.cell? ⟨gb207, 1, none⟩ = some (.int .i64 a0_1) := (blk_cell BK207.out 1).trans rfl; have hcz28_2 : w27.cell? ⟨gb207, 2, none⟩ = some (.int .i64 a0_2) := (blk_cell BK207.out 2).trans rfl; have hcz28_3 : w27.cell? ⟨gb207, 3, none⟩ = some (.int .i64 a0_3) := (blk_cell BK207.out 3).trans rfl; have hcz28_4 : w27.cell? ⟨gb207, 4, none⟩ = some (.int .i64 a0_4) := (blk_cell BK207.out 4).trans rfl; have hcz28_5 : w27.cell? ⟨gb207, 5, none⟩ = some (.int .i64 a0_5) := (blk_cell BK207.out 5).trans rfl; have hcz28_6 : w27.cell? ⟨gb207, 6, none⟩ = some (.int .i64 a0_6) := (blk_cell BK207.out 6).trans rfl; have hcz28_7 : w27.cell? ⟨gb207, 7, none⟩ = some (.int .i64 a0_7) := (blk_cell BK207.out 7).trans rfl; have hfz28_0 := blk_frozen BK207.out 0; have hfz28_1 := blk_frozen BK207.out 1; have hfz28_2 := blk_frozen BK207.out 2; have hfz28_3 := blk_frozen BK207.out 3; have hfz28_4 := blk_frozen BK207.out 4; have hfz28_5 := blk_frozen BK207.out 5; have hfz28_6 := blk_frozen BK207.out 6; have hfz28_7 := blk_frozen BK207.out 7))
                    go_ret
                    exact ⟨by first | rfl | (simp [errW_none, errW_some] <;> rfl) | (simp [*, errW_none, errW_some] <;> rfl), by repeat (first | (with_reducible first | exact HB.out | apply below_alloc | apply pw_below_drewN | apply below_drew1 | refine below_set ?_ GE207.out) | exact HB.out)⟩
                  · rw [if_neg c26] at H
                    have c26b0 : decide (a0_3 ≤ a0_6) = false := decide_eq_false c26
                    clear c26
                    obtain rfl := Option.some.inj H
                    simp only [Option.some.injEq, Prod.mk.injEq] at H
                    obtain ⟨rfl⟩ := H
                    go_enter Tryd.func18, Tryd.ntmps18
                    go_wp2_with (first | ((with_reducible refine gate_dst (N := 1) rfl ?_); refine box_event ?hg (N := 1) ?hd (cs := #[.string a0_0, .int .i64 a0_1, .int .i64 a0_2, .int .i64 a0_3, .int .i64 a0_4, .int .i64 a0_5, .int .i64 a0_6, .int .i64 a0_7]) (t := 23) ?hr ?_; (case hd => rfl); (case hg => rfl); (case hr => first | (go_simp; done) | (go_simp; rfl)); intro gb207 hg w29 hbox hb; have n0_ := Aside0.mk (below_step (by repeat (first | (with_reducible first | exact HB.out | apply below_alloc | apply pw_below_drewN | apply below_drew1) | exact HB.out)) hb); have n1_ := Aside0.mk (hbox); have n2_ := Aside0.mk ((by rw [hg]; exact (below_size (by repeat (first | (with_reducible first | exact HB.out | apply below_alloc | apply pw_below_drewN | apply below_drew1) | exact HB.out))) : w.heap.size ≤ gb207)); have n3_ := Aside0.mk ((by rw [hg]; exact (below_size (by repeat (first | (with_reducible first | exact HB.out | apply below_alloc | apply pw_below_drewN | apply below_drew1) | exact HB.out))) : w.heap.size ≤ gb207)); clear HB; have HB := n0_; have BK207 := n1_; have GW207 := n2_; have GE207 := n3_; clear n0_ n1_ n2_ n3_; clear hb hbox hg; have hcz30_0 : w29.cell? ⟨gb207, 0, none⟩ = some (.string a0_0) := (blk_cell BK207.out 0).trans rfl; have hcz30_1 : w29.cell? ⟨gb207, 1, none⟩ = some (.int .i64 a0_1) := (blk_cell BK207.out 1).trans rfl; have hcz30_2 : w29.cell? ⟨gb207, 2, none⟩ = some (.int .i64 a0_2) := (blk_cell BK207.out 2).trans rfl; have hcz30_3 : w29.cell? ⟨gb207, 3, none⟩ = some (.int .i64 a0_3) := (blk_cell BK207.out 3).trans rfl; have hcz30_4 : w29.cell? ⟨gb207, 4, none⟩ = some (.int .i64 a0_4) := (blk_cell BK207.out 4).trans rfl; have hcz30_5 : w29.cell? ⟨gb207, 5, none⟩ = some (.int .i64 a0_5) := (blk_cell BK207.out 5).trans rfl; have hcz30_6 : w29.cell? ⟨gb207, 6, none⟩ = some (.int .i64 a0_6) := (blk_cell BK207.out 6).trans rfl; have hcz30_7 : w29.cell? ⟨gb207, 7, none⟩ = some (.int .i64 a0_7) := (blk_cell BK207.out 7).trans rfl; have hfz30_0 := blk_frozen BK207.out 0; have hfz30_1 := blk_frozen BK207.out 1; have hfz30_2 := blk_frozen BK207.out 2; have hfz30_3 := blk_frozen BK207.out 3; have hfz30_4 := blk_frozen BK207.out 4; have hfz30_5 := blk_frozen BK207.out 5; have hfz30_6 := blk_frozen BK207.out 6; have hfz30_7 := blk_frozen BK207.out 7))
                    go_ret
                    exact ⟨by first | rfl | (simp [errW_none, errW_some] <;> rfl) | (simp [*, errW_none, errW_some] <;> rfl), by repeat (first | (with_reducible first | exact HB.out | apply below_alloc | apply pw_below_drewN | apply below_drew1 | refine below_set ?_ GE207.out) | exact HB.out)⟩

/-! ### chargeparkref12_Valid: function 14 -/
def chargeparkref12_Valid.j0 : Nat → Bool → Int → Int → Int → Bool → Option (Bool)
  | 0, _, _, _, _, _ => none
  | k + 1, x41, x210000, x210001, x210002, x210003 => if x41 = true then (some false) else (if x210002 = 0 then (if x210001 = 0 then (if x210003 = true then (some (x210000 == 5)) else (some true)) else (some false)) else (if x210003 = true then (some (x210000 == 5)) else (some true)))
def chargeparkref12_Valid.f (k : Nat) (a0_0 : ByteArray) (a0_1 : Int) (a0_2 : Int) (a0_3 : Int) (a0_4 : Int) (a0_5 : Int) (a0_6 : Int) (a0_7 : Int) (a1_0 : Int) (a1_1 : Int) (a1_2 : Int) (a1_3 : Bool) : Option (Bool) := (chargeparkref12_Charger.f a0_0 a0_1 a0_2 a0_3 a0_4 a0_5 a0_6 a0_7).bind fun t210 => (if t210 = true then (if a1_0 < 0 then (chargeparkref12_Valid.j0 k true a1_0 a1_1 a1_2 a1_3) else (if a1_0 > 5 then (chargeparkref12_Valid.j0 k true a1_0 a1_1 a1_2 a1_3) else (if a1_2 < 0 then (chargeparkref12_Valid.j0 k true a1_0 a1_1 a1_2 a1_3) else (if a1_2 > 1000000 then (chargeparkref12_Valid.j0 k true a1_0 a1_1 a1_2 a1_3) else (if a1_1 < 0 then (chargeparkref12_Valid.j0 k true a1_0 a1_1 a1_2 a1_3) else (chargeparkref12_Valid.j0 k (decide (a1_1 > a0_4)) a1_0 a1_1 a1_2 a1_3)))))) else (chargeparkref12_Valid.j0 k true a1_0 a1_1 a1_2 a1_3))
theorem chargeparkref12_Valid.mono_l : ∀ k, (∀ y0 y1 y2 y3 y4, LeO (chargeparkref12_Valid.j0 k y0 y1 y2 y3 y4) (chargeparkref12_Valid.j0 (k + 1) y0 y1 y2 y3 y4))
  | 0 => fun _ _ _ _ _ r h => by simp [chargeparkref12_Valid.j0] at h
  | k + 1 => by
    have ih0 := chargeparkref12_Valid.mono_l k
    · intro y0 y1 y2 y3 y4
      unfold chargeparkref12_Valid.j0
      repeat' first
      | (with_reducible exact ih0 _ _ _ _ _)
      | (with_reducible exact LeO.refl _)
      | (with_reducible exact LeO.none _)
      | (with_reducible refine LeO.ite ?_ ?_)
      | (with_reducible refine LeO.bind ?_ (fun _ => ?_))
      | exact ih0 _ _ _ _ _
      | exact LeO.none _
      | refine LeO.ite ?_ ?_
      | refine LeO.bind ?_ (fun _ => ?_)
theorem chargeparkref12_Valid.mono : ∀ a0 a1 a2 a3 a4 a5 a6 a7 a8 a9 a10 a11 k, LeO (chargeparkref12_Valid.f k a0 a1 a2 a3 a4 a5 a6 a7 a8 a9 a10 a11) (chargeparkref12_Valid.f (k + 1) a0 a1 a2 a3 a4 a5 a6 a7 a8 a9 a10 a11) := by
  intro a0 a1 a2 a3 a4 a5 a6 a7 a8 a9 a10 a11 k
  have ih0 := chargeparkref12_Valid.mono_l k
  unfold chargeparkref12_Valid.f
  repeat' first
      | (with_reducible exact ih0 _ _ _ _ _)
      | (with_reducible exact LeO.refl _)
      | (with_reducible exact LeO.none _)
      | (with_reducible refine LeO.ite ?_ ?_)
      | (with_reducible refine LeO.bind ?_ (fun _ => ?_))
      | exact ih0 _ _ _ _ _
      | exact LeO.none _
      | refine LeO.ite ?_ ?_
      | refine LeO.bind ?_ (fun _ => ?_)
set_option maxHeartbeats 8000000 in
set_option maxRecDepth 100000 in
theorem chargeparkref12_Valid.calls (k : Nat) (a0_0 : ByteArray) (a0_1 : Int) (a0_2 : Int) (a0_3 : Int) (a0_4 : Int) (a0_5 : Int) (a0_6 : Int) (a0_7 : Int) (a1_0 : Int) (a1_1 : Int) (a1_2 : Int) (a1_3 : Bool) (r : Bool) (w : World) (h : chargeparkref12_Valid.f k a0_0 a0_1 a0_2 a0_3 a0_4 a0_5 a0_6 a0_7 a1_0 a1_1 a1_2 a1_3 = some r) :
    Calls Tryd.prog 14 #[.agg #[.string a0_0, .int .i64 a0_1, .int .i64 a0_2, .int .i64 a0_3, .int .i64 a0_4, .int .i64 a0_5, .int .i64 a0_6, .int .i64 a0_7], .agg #[.int .i64 a1_0, .int .i64 a1_1, .int .i64 a1_2, .bool a1_3]] w fun e w' => e = .returned (.bool r) ∧ Below w.heap.size w w' := by
  have hu23 := Tryd.underlying23
  have hu25 := Tryd.underlying25
  have HB := Aside0.mk (Below.refl w.heap.size w)
  have H : ((chargeparkref12_Charger.f a0_0 a0_1 a0_2 a0_3 a0_4 a0_5 a0_6 a0_7).bind fun t210 => (if t210 = true then (if a1_0 < 0 then (chargeparkref12_Valid.j0 k true a1_0 a1_1 a1_2 a1_3) else (if a1_0 > 5 then (chargeparkref12_Valid.j0 k true a1_0 a1_1 a1_2 a1_3) else (if a1_2 < 0 then (chargeparkref12_Valid.j0 k true a1_0 a1_1 a1_2 a1_3) else (if a1_2 > 1000000 then (chargeparkref12_Valid.j0 k true a1_0 a1_1 a1_2 a1_3) else (if a1_1 < 0 then (chargeparkref12_Valid.j0 k true a1_0 a1_1 a1_2 a1_3) else (chargeparkref12_Valid.j0 k (decide (a1_1 > a0_4)) a1_0 a1_1 a1_2 a1_3)))))) else (chargeparkref12_Valid.j0 k true a1_0 a1_1 a1_2 a1_3))) = some r := h
  clear h
  replace H := Option.bind_eq_some_iff.mp H
  obtain ⟨t210, A30, H⟩ := H
  replace H : (if t210 = true then (if a1_0 < 0 then (chargeparkref12_Valid.j0 k true a1_0 a1_1 a1_2 a1_3) else (if a1_0 > 5 then (chargeparkref12_Valid.j0 k true a1_0 a1_1 a1_2 a1_3) else (if a1_2 < 0 then (chargeparkref12_Valid.j0 k true a1_0 a1_1 a1_2 a1_3) else (if a1_2 > 1000000 then (chargeparkref12_Valid.j0 k true a1_0 a1_1 a1_2 a1_3) else (if a1_1 < 0 then (chargeparkref12_Valid.j0 k true a1_0 a1_1 a1_2 a1_3) else (chargeparkref12_Valid.j0 k (decide (a1_1 > a0_4)) a1_0 a1_1 a1_2 a1_3)))))) else (chargeparkref12_Valid.j0 k true a1_0 a1_1 a1_2 a1_3)) = some r := H
  have A3 := Aside0.mk A30
  clear A30
  have HC4 := Aside0.mk H
  clear H
  go_enter Tryd.func14, Tryd.ntmps14
  go_upto_region 2 with (first | ((with_reducible refine gate_dst (N := 2) rfl ?_); refine box_event ?hg (N := 2) ?hd (cs := #[.string a0_0, .int .i64 a0_1, .int .i64 a0_2, .int .i64 a0_3, .int .i64 a0_4, .int .i64 a0_5, .int .i64 a0_6, .int .i64 a0_7]) (t := 23) ?hr ?_; (case hd => rfl); (case hg => rfl); (case hr => first | (go_simp; done) | (go_simp; rfl)); intro gb208 hg w5 hbox hb; have n0_ := Aside0.mk (below_step (by repeat (first | (with_reducible first | exact HB.out | apply below_alloc | apply pw_below_drewN | apply below_drew1) | exact HB.out)) hb); have n1_ := Aside0.mk (hbox); have n2_ := Aside0.mk ((by rw [hg]; exact (below_size (by repeat (first | (with_reducible first | exact HB.out | apply below_alloc | apply pw_below_drewN | apply below_drew1) | exact HB.out))) : w.heap.size ≤ gb208)); have n3_ := Aside0.mk ((by rw [hg]; exact (below_size (by repeat (first | (with_reducible first | exact HB.out | apply below_alloc | apply pw_below_drewN | apply below_drew1) | exact HB.out))) : w.heap.size ≤ gb208)); clear HB; have HB := n0_; have BK208 := n1_; have GW208 := n2_; have GE208 := n3_; clear n0_ n1_ n2_ n3_; clear hb hbox hg) | ((with_reducible refine gate_dst (N := 3) rfl ?_); refine box_event ?hg (N := 3) ?hd (cs := #[.int .i64 a1_0, .int .i64 a1_1, .int .i64 a1_2, .bool a1_3]) (t := 25) ?hr ?_; (case hd => rfl); (case hg => rfl); (case hr => first | (go_simp; done) | (go_simp; rfl)); intro gb209 hg w6 hbox hb; have n0_ := Aside0.mk (blk_below (g := gb208) (o := .cells #[.string a0_0, .int .i64 a0_1, .int .i64 a0_2, .int .i64 a0_3, .int .i64 a0_4, .int .i64 a0_5, .int .i64 a0_6, .int .i64 a0_7] 23 (0, 0)) (by (with_reducible repeat (first | refine blk_drewN ?_ _ | refine blk_drew ?_ | refine blk_alloc ?_ _)); exact BK208.out) hb); have n1_ := Aside0.mk (below_step (by repeat (first | (with_reducible first | exact HB.out | apply below_alloc | apply pw_below_drewN | apply below_drew1 | refine below_set ?_ GE208.out) | exact HB.out)) hb); have n2_ := Aside0.mk (hbox); have n3_ := Aside0.mk ((by rw [hg]; exact (below_size (by repeat (first | (with_reducible first | exact HB.out | apply below_alloc | apply pw_below_drewN | apply below_drew1 | refine below_set ?_ GE208.out) | exact HB.out))) : w.heap.size ≤ gb209)); have n4_ := Aside0.mk ((by rw [hg]; exact (below_size (by repeat (first | (with_reducible first | exact HB.out | apply below_alloc | apply pw_below_drewN | apply below_drew1 | refine below_set ?_ GE208.out) | exact HB.out))) : w.heap.size ≤ gb209)); have n5_ := Aside0.mk ((by rw [hg]; exact Nat.ne_of_lt (blk_lt (g := gb208) (o := .cells #[.string a0_0, .int .i64 a0_1, .int .i64 a0_2, .int .i64 a0_3, .int .i64 a0_4, .int .i64 a0_5, .int .i64 a0_6, .int .i64 a0_7] 23 (0, 0)) (by (with_reducible repeat (first | refine blk_drewN ?_ _ | refine blk_drew ?_ | refine blk_alloc ?_ _)); exact BK208.out)) : gb208 ≠ gb209)); have n6_ := Aside0.mk ((by rw [hg]; exact Nat.ne_of_gt (blk_lt (g := gb208) (o := .cells #[.string a0_0, .int .i64 a0_1, .int .i64 a0_2, .int .i64 a0_3, .int .i64 a0_4, .int .i64 a0_5, .int .i64 a0_6, .int .i64 a0_7] 23 (0, 0)) (by (with_reducible repeat (first | refine blk_drewN ?_ _ | refine blk_drew ?_ | refine blk_alloc ?_ _)); exact BK208.out)) : gb209 ≠ gb208)); clear BK208; clear HB; have BK208 := n0_; have HB := n1_; have BK209 := n2_; have GW209 := n3_; have GE209 := n4_; have NB208_209 := n5_; have NB209_208 := n6_; clear n0_ n1_ n2_ n3_ n4_ n5_ n6_; clear hb hbox hg; have hnb7 := NB208_209.out; have hnc7 := NB209_208.out; have hcz8_0 : w6.cell? ⟨gb208, 0, none⟩ = some (.string a0_0) := (blk_cell BK208.out 0).trans rfl; have hcz8_1 : w6.cell? ⟨gb208, 1, none⟩ = some (.int .i64 a0_1) := (blk_cell BK208.out 1).trans rfl; have hcz8_2 : w6.cell? ⟨gb208, 2, none⟩ = some (.int .i64 a0_2) := (blk_cell BK208.out 2).trans rfl; have hcz8_3 : w6.cell? ⟨gb208, 3, none⟩ = some (.int .i64 a0_3) := (blk_cell BK208.out 3).trans rfl; have hcz8_4 : w6.cell? ⟨gb208, 4, none⟩ = some (.int .i64 a0_4) := (blk_cell BK208.out 4).trans rfl; have hcz8_5 : w6.cell? ⟨gb208, 5, none⟩ = some (.int .i64 a0_5) := (blk_cell BK208.out 5).trans rfl; have hcz8_6 : w6.cell? ⟨gb208, 6, none⟩ = some (.int .i64 a0_6) := (blk_cell BK208.out 6).trans rfl; have hcz8_7 : w6.cell? ⟨gb208, 7, none⟩ = some (.int .i64 a0_7) := (blk_cell BK208.out 7).trans rfl; have hfz8_0 := blk_frozen BK208.out 0; have hfz8_1 := blk_frozen BK208.out 1; have hfz8_2 := blk_frozen BK208.out 2; have hfz8_3 := blk_frozen BK208.out 3; have hfz8_4 := blk_frozen BK208.out 4; have hfz8_5 := blk_frozen BK208.out 5; have hfz8_6 := blk_frozen BK208.out 6; have hfz8_7 := blk_frozen BK208.out 7) | ((with_reducible refine gate_callee (f := 18) rfl ?_); refine goesL_ (some 7) rfl rfl Tryd.func18 (by kernel_rfl) rfl #[.agg #[.string a0_0, .int .i64 a0_1, .int .i64 a0_2, .int .i64 a0_3, .int .i64 a0_4, .int .i64 a0_5, .int .i64 a0_6, .int .i64 a0_7]] rfl (by (try simp only [List.map_toArray, List.map_cons, List.map_nil]); first | done | rfl | (simp only [List.length_drop, List.length_take]; rfl)) ?_; (with_reducible refine (chargeparkref12_Charger.calls a0_0 a0_1 a0_2 a0_3 a0_4 a0_5 a0_6 a0_7 t210 _ A3.out).mono ?_); rintro e w9 ⟨rfl, hb⟩; refine ⟨_, rfl, ?_⟩; have n0_ := Aside0.mk (blk_below (g := gb208) (o := .cells #[.string a0_0, .int .i64 a0_1, .int .i64 a0_2, .int .i64 a0_3, .int .i64 a0_4, .int .i64 a0_5, .int .i64 a0_6, .int .i64 a0_7] 23 (0, 0)) (by (with_reducible repeat (first | refine blk_drewN ?_ _ | refine blk_drew ?_ | refine blk_alloc ?_ _)); exact BK208.out) hb); have n1_ := Aside0.mk (blk_below (g := gb209) (o := .cells #[.int .i64 a1_0, .int .i64 a1_1, .int .i64 a1_2, .bool a1_3] 25 (0, 0)) (by (with_reducible repeat (first | refine blk_drewN ?_ _ | refine blk_drew ?_ | refine blk_alloc ?_ _)); exact BK209.out) hb); have n2_ := Aside0.mk (below_step (by repeat (first | (with_reducible first | exact HB.out | apply below_alloc | apply pw_below_drewN | apply below_drew1 | refine below_set ?_ GE208.out | refine below_set ?_ GE209.out) | exact HB.out)) hb); clear BK208; clear BK209; clear HB; have BK208 := n0_; have BK209 := n1_; have HB := n2_; clear n0_ n1_ n2_; (try clear hb); (try clear hb2); (try clear hk); (try clear hi)))
  (try simp only [Act.put, List.setIfInBounds_toArray, List.set_cons_zero, List.set_cons_succ])
  go_cut [41] (fun v41 wc => ∃ (kq : Nat) (x41_3 : Bool), v41 = .bool x41_3 ∧ Aside0 (chargeparkref12_Valid.j0 kq x41_3 a1_0 a1_1 a1_2 a1_3 = some r) ∧ Aside0 (kq ≤ k) ∧ Aside0 (wc.heap[gb208]? = some (.cells #[.string a0_0, .int .i64 a0_1, .int .i64 a0_2, .int .i64 a0_3, .int .i64 a0_4, .int .i64 a0_5, .int .i64 a0_6, .int .i64 a0_7] 23 (0, 0))) ∧ Aside0 (wc.heap[gb209]? = some (.cells #[.int .i64 a1_0, .int .i64 a1_1, .int .i64 a1_2, .bool a1_3] 25 (0, 0))) ∧ Aside0 (Below w.heap.size w wc))
  case first =>
    have H := HC4.out
    clear HC4
    by_cases c10 : t210 = true
    · subst c10
      have H1 : (if a1_0 < 0 then (chargeparkref12_Valid.j0 k true a1_0 a1_1 a1_2 a1_3) else (if a1_0 > 5 then (chargeparkref12_Valid.j0 k true a1_0 a1_1 a1_2 a1_3) else (if a1_2 < 0 then (chargeparkref12_Valid.j0 k true a1_0 a1_1 a1_2 a1_3) else (if a1_2 > 1000000 then (chargeparkref12_Valid.j0 k true a1_0 a1_1 a1_2 a1_3) else (if a1_1 < 0 then (chargeparkref12_Valid.j0 k true a1_0 a1_1 a1_2 a1_3) else (chargeparkref12_Valid.j0 k (decide (a1_1 > a0_4)) a1_0 a1_1 a1_2 a1_3)))))) = some r := by rw [if_pos rfl] at H; exact H
      clear H
      have H := H1
      clear H1
      by_cases c11 : a1_0 < 0
      · rw [if_pos c11] at H
        have c11b0 : decide (a1_0 < 0) = true := decide_eq_true c11
        clear c11
        (first | rw [c11b0] | (simp only [i64_w, i32_w]; rw [c11b0]) | skip)
        have H' := Aside0.mk H
        clear H
        have hnb12 := NB209_208.out
        have hnc12 := NB208_209.out
        have hcz13_0 : w9.cell? ⟨gb209, 0, none⟩ = some (.int .i64 a1_0) := (blk_cell BK209.out 0).trans rfl
        have hcz13_1 : w9.cell? ⟨gb209, 1, none⟩ = some (.int .i64 a1_1) := (blk_cell BK209.out 1).trans rfl
        have hcz13_2 : w9.cell? ⟨gb209, 2, none⟩ = some (.int .i64 a1_2) := (blk_cell BK209.out 2).trans rfl
        have hcz13_3 : w9.cell? ⟨gb209, 3, none⟩ = some (.bool a1_3) := (blk_cell BK209.out 3).trans rfl
        have hfz13_0 := blk_frozen BK209.out 0
        have hfz13_1 := blk_frozen BK209.out 1
        have hfz13_2 := blk_frozen BK209.out 2
        have hfz13_3 := blk_frozen BK209.out 3
        go_wp2
        go_meet
        case rel => exact ⟨_, (true), (by first | rfl | (simp; done) | (simp [*]; done)), H', ⟨by first | omega | exact Nat.le_refl _⟩, ⟨by (with_reducible repeat (first | refine blk_drewN ?_ _ | refine blk_drew ?_ | refine blk_alloc ?_ _)); exact BK208.out⟩, ⟨by (with_reducible repeat (first | refine blk_drewN ?_ _ | refine blk_drew ?_ | refine blk_alloc ?_ _)); exact BK209.out⟩, ⟨by repeat (first | (with_reducible first | exact HB.out | apply below_alloc | apply pw_below_drewN | apply below_drew1 | refine below_set ?_ GE208.out | refine below_set ?_ GE209.out) | exact HB.out)⟩⟩
      · rw [if_neg c11] at H
        have c11b0 : decide (a1_0 < 0) = false := decide_eq_false c11
        clear c11
        (first | rw [c11b0] | (simp only [i64_w, i32_w]; rw [c11b0]) | skip)
        by_cases c14 : a1_0 > 5
        · rw [if_pos c14] at H
          have c14b0 : decide (5 < a1_0) = true := decide_eq_true c14
          clear c14
          have H' := Aside0.mk H
          clear H
          have hnb15 := NB209_208.out
          have hnc15 := NB208_209.out
          have hcz16_0 : w9.cell? ⟨gb209, 0, none⟩ = some (.int .i64 a1_0) := (blk_cell BK209.out 0).trans rfl
          have hcz16_1 : w9.cell? ⟨gb209, 1, none⟩ = some (.int .i64 a1_1) := (blk_cell BK209.out 1).trans rfl
          have hcz16_2 : w9.cell? ⟨gb209, 2, none⟩ = some (.int .i64 a1_2) := (blk_cell BK209.out 2).trans rfl
          have hcz16_3 : w9.cell? ⟨gb209, 3, none⟩ = some (.bool a1_3) := (blk_cell BK209.out 3).trans rfl
          have hfz16_0 := blk_frozen BK209.out 0
          have hfz16_1 := blk_frozen BK209.out 1
          have hfz16_2 := blk_frozen BK209.out 2
          have hfz16_3 := blk_frozen BK209.out 3
          go_wp2
          go_meet
          case rel => exact ⟨_, (true), (by first | rfl | (simp; done) | (simp [*]; done)), H', ⟨by first | omega | exact Nat.le_refl _⟩, ⟨by (with_reducible repeat (first | refine blk_drewN ?_ _ | refine blk_drew ?_ | refine blk_alloc ?_ _)); exact BK208.out⟩, ⟨by (with_reducible repeat (first | refine blk_drewN ?_ _ | refine blk_drew ?_ | refine blk_alloc ?_ _)); exact BK209.out⟩, ⟨by repeat (first | (with_reducible first | exact HB.out | apply below_alloc | apply pw_below_drewN | apply below_drew1 | refine below_set ?_ GE208.out | refine below_set ?_ GE209.out) | exact HB.out)⟩⟩
        · rw [if_neg c14] at H
          have c14b0 : decide (5 < a1_0) = false := decide_eq_false c14
          clear c14
          by_cases c17 : a1_2 < 0
          · rw [if_pos c17] at H
            have c17b0 : decide (a1_2 < 0) = true := decide_eq_true c17
            clear c17
            have H' := Aside0.mk H
            clear H
            have hnb18 := NB209_208.out
            have hnc18 := NB208_209.out
            have hcz19_0 : w9.cell? ⟨gb209, 0, none⟩ = some (.int .i64 a1_0) := (blk_cell BK209.out 0).trans rfl
            have hcz19_1 : w9.cell? ⟨gb209, 1, none⟩ = some (.int .i64 a1_1) := (blk_cell BK209.out 1).trans rfl
            have hcz19_2 : w9.cell? ⟨gb209, 2, none⟩ = some (.int .i64 a1_2) := (blk_cell BK209.out 2).trans rfl
            have hcz19_3 : w9.cell? ⟨gb209, 3, none⟩ = some (.bool a1_3) := (blk_cell BK209.out 3).trans rfl
            have hfz19_0 := blk_frozen BK209.out 0
            have hfz19_1 := blk_frozen BK209.out 1
            have hfz19_2 := blk_frozen BK209.out 2
            have hfz19_3 := blk_frozen BK209.out 3
            go_wp2
            go_meet
            case rel => exact ⟨_, (true), (by first | rfl | (simp; done) | (simp [*]; done)), H', ⟨by first | omega | exact Nat.le_refl _⟩, ⟨by (with_reducible repeat (first | refine blk_drewN ?_ _ | refine blk_drew ?_ | refine blk_alloc ?_ _)); exact BK208.out⟩, ⟨by (with_reducible repeat (first | refine blk_drewN ?_ _ | refine blk_drew ?_ | refine blk_alloc ?_ _)); exact BK209.out⟩, ⟨by repeat (first | (with_reducible first | exact HB.out | apply below_alloc | apply pw_below_drewN | apply below_drew1 | refine below_set ?_ GE208.out | refine below_set ?_ GE209.out) | exact HB.out)⟩⟩
          · rw [if_neg c17] at H
            have c17b0 : decide (a1_2 < 0) = false := decide_eq_false c17
            clear c17
            by_cases c20 : a1_2 > 1000000
            · rw [if_pos c20] at H
              have c20b0 : decide (1000000 < a1_2) = true := decide_eq_true c20
              clear c20
              have H' := Aside0.mk H
              clear H
              have hnb21 := NB209_208.out
              have hnc21 := NB208_209.out
              have hcz22_0 : w9.cell? ⟨gb209, 0, none⟩ = some (.int .i64 a1_0) := (blk_cell BK209.out 0).trans rfl
              have hcz22_1 : w9.cell? ⟨gb209, 1, none⟩ = some (.int .i64 a1_1) := (blk_cell BK209.out 1).trans rfl
              have hcz22_2 : w9.cell? ⟨gb209, 2, none⟩ = some (.int .i64 a1_2) := (blk_cell BK209.out 2).trans rfl
              have hcz22_3 : w9.cell? ⟨gb209, 3, none⟩ = some (.bool a1_3) := (blk_cell BK209.out 3).trans rfl
              have hfz22_0 := blk_frozen BK209.out 0
              have hfz22_1 := blk_frozen BK209.out 1
              have hfz22_2 := blk_frozen BK209.out 2
              have hfz22_3 := blk_frozen BK209.out 3
              go_wp2
              go_meet
              case rel => exact ⟨_, (true), (by first | rfl | (simp; done) | (simp [*]; done)), H', ⟨by first | omega | exact Nat.le_refl _⟩, ⟨by (with_reducible repeat (first | refine blk_drewN ?_ _ | refine blk_drew ?_ | refine blk_alloc ?_ _)); exact BK208.out⟩, ⟨by (with_reducible repeat (first | refine blk_drewN ?_ _ | refine blk_drew ?_ | refine blk_alloc ?_ _)); exact BK209.out⟩, ⟨by repeat (first | (with_reducible first | exact HB.out | apply below_alloc | apply pw_below_drewN | apply below_drew1 | refine below_set ?_ GE208.out | refine below_set ?_ GE209.out) | exact HB.out)⟩⟩
            · rw [if_neg c20] at H
              have c20b0 : decide (1000000 < a1_2) = false := decide_eq_false c20
              clear c20
              by_cases c23 : a1_1 < 0
              · rw [if_pos c23] at H
                have c23b0 : decide (a1_1 < 0) = true := decide_eq_true c23
                clear c23
                have H' := Aside0.mk H
                clear H
                have hnb24 := NB209_208.out
                have hnc24 := NB208_209.out
                have hcz25_0 : w9.cell? ⟨gb209, 0, none⟩ = some (.int .i64 a1_0) := (blk_cell BK209.out 0).trans rfl
                have hcz25_1 : w9.cell? ⟨gb209, 1, none⟩ = some (.int .i64 a1_1) := (blk_cell BK209.out 1).trans rfl
                have hcz25_2 : w9.cell? ⟨gb209, 2, none⟩ = some (.int .i64 a1_2) := (blk_cell BK209.out 2).trans rfl
                have hcz25_3 : w9.cell? ⟨gb209, 3, none⟩ = some (.bool a1_3) := (blk_cell BK209.out 3).trans rfl
                have hfz25_0 := blk_frozen BK209.out 0
                have hfz25_1 := blk_frozen BK209.out 1
                have hfz25_2 := blk_frozen BK209.out 2
                have hfz25_3 := blk_frozen BK209.out 3
                go_wp2
                go_meet
                case rel => exact ⟨_, (true), (by first | rfl | (simp; done) | (simp [*]; done)), H', ⟨by first | omega | exact Nat.le_refl _⟩, ⟨by (with_reducible repeat (first | refine blk_drewN ?_ _ | refine blk_drew ?_ | refine blk_alloc ?_ _)); exact BK208.out⟩, ⟨by (with_reducible repeat (first | refine blk_drewN ?_ _ | refine blk_drew ?_ | refine blk_alloc ?_ _)); exact BK209.out⟩, ⟨by repeat (first | (with_reducible first | exact HB.out | apply below_alloc | apply pw_below_drewN | apply below_drew1 | refine below_set ?_ GE208.out | refine below_set ?_ GE209.out) | exact HB.out)⟩⟩
              · rw [if_neg c23] at H
                have c23b0 : decide (a1_1 < 0) = false := decide_eq_false c23
                clear c23
                have H' := Aside0.mk H
                clear H
                have hnb26 := NB209_208.out
                have hnc26 := NB208_209.out
                have hcz27_0 : w9.cell? ⟨gb209, 0, none⟩ = some (.int .i64 a1_0) := (blk_cell BK209.out 0).trans rfl
                have hcz27_1 : w9.cell? ⟨gb209, 1, none⟩ = some (.int .i64 a1_1) := (blk_cell BK209.out 1).trans rfl
                have hcz27_2 : w9.cell? ⟨gb209, 2, none⟩ = some (.int .i64 a1_2) := (blk_cell BK209.out 2).trans rfl
                have hcz27_3 : w9.cell? ⟨gb209, 3, none⟩ = some (.bool a1_3) := (blk_cell BK209.out 3).trans rfl
                have hfz27_0 := blk_frozen BK209.out 0
                have hfz27_1 := blk_frozen BK209.out 1
                have hfz27_2 := blk_frozen BK209.out 2
                have hfz27_3 := blk_frozen BK209.out 3
                have hcz28_0 : w9.cell? ⟨gb208, 0, none⟩ = some (.string a0_0) := (blk_cell BK208.out 0).trans rfl
                have hcz28_1 : w9.cell? ⟨gb208, 1, none⟩ = some (.int .i64 a0_1) := (blk_cell BK208.out 1).trans rfl
                have hcz28_2 : w9.cell? ⟨gb208, 2, none⟩ = some (.int .i64 a0_2) := (blk_cell BK208.out 2).trans rfl
                have hcz28_3 : w9.cell? ⟨gb208, 3, none⟩ = some (.int .i64 a0_3) := (blk_cell BK208.out 3).trans rfl
                have hcz28_4 : w9.cell? ⟨gb208, 4, none⟩ = some (.int .i64 a0_4) := (blk_cell BK208.out 4).trans rfl
                have hcz28_5 : w9.cell? ⟨gb208, 5, none⟩ = some (.int .i64 a0_5) := (blk_cell BK208.out 5).trans rfl
                have hcz28_6 : w9.cell? ⟨gb208, 6, none⟩ = some (.int .i64 a0_6) := (blk_cell BK208.out 6).trans rfl
                have hcz28_7 : w9.cell? ⟨gb208, 7, none⟩ = some (.int .i64 a0_7) := (blk_cell BK208.out 7).trans rfl
                have hfz28_0 := blk_frozen BK208.out 0
                have hfz28_1 := blk_frozen BK208.out 1
                have hfz28_2 := blk_frozen BK208.out 2
                have hfz28_3 := blk_frozen BK208.out 3
                have hfz28_4 := blk_frozen BK208.out 4
                have hfz28_5 := blk_frozen BK208.out 5
                have hfz28_6 := blk_frozen BK208.out 6
                have hfz28_7 := blk_frozen BK208.out 7
                go_wp2
                go_meet
                case rel => exact ⟨_, (decide (a1_1 > a0_4)), (by first | rfl | (simp; done) | (simp [*]; done)), H', ⟨by first | omega | exact Nat.le_refl _⟩, ⟨by (with_reducible repeat (first | refine blk_drewN ?_ _ | refine blk_drew ?_ | refine blk_alloc ?_ _)); exact BK208.out⟩, ⟨by (with_reducible repeat (first | refine blk_drewN ?_ _ | refine blk_drew ?_ | refine blk_alloc ?_ _)); exact BK209.out⟩, ⟨by repeat (first | (with_reducible first | exact HB.out | apply below_alloc | apply pw_below_drewN | apply below_drew1 | refine below_set ?_ GE208.out | refine below_set ?_ GE209.out) | exact HB.out)⟩⟩
    · replace c10 := Bool.eq_false_iff.mpr c10
      subst c10
      have H1 : (chargeparkref12_Valid.j0 k true a1_0 a1_1 a1_2 a1_3) = some r := by rw [if_neg (show ¬ (false = true) by decide)] at H; exact H
      clear H
      have H := H1
      clear H1
      have H' := Aside0.mk H
      clear H
      go_wp2
      go_meet
      case rel => exact ⟨_, (true), (by first | rfl | (simp; done) | (simp [*]; done)), H', ⟨by first | omega | exact Nat.le_refl _⟩, ⟨by (with_reducible repeat (first | refine blk_drewN ?_ _ | refine blk_drew ?_ | refine blk_alloc ?_ _)); exact BK208.out⟩, ⟨by (with_reducible repeat (first | refine blk_drewN ?_ _ | refine blk_drew ?_ | refine blk_alloc ?_ _)); exact BK209.out⟩, ⟨by repeat (first | (with_reducible first | exact HB.out | apply below_alloc | apply pw_below_drewN | apply below_drew1 | refine below_set ?_ GE208.out | refine below_set ?_ GE209.out) | exact HB.out)⟩⟩
  case rest =>
    clear HC4
    try clear c1
    try clear c2
    try clear p2
    try clear c7
    try clear c10
    try clear c11
    try clear c11b0
    try clear c12
    try clear c14
    try clear c14b0
    try clear c15
    try clear c17
    try clear c17b0
    try clear c18
    try clear c20
    try clear c20b0
    try clear c21
    try clear c23
    try clear c23b0
    try clear c24
    try clear c26
    try clear hcz13_0
    try clear hcz13_1
    try clear hcz13_2
    try clear hcz13_3
    try clear hcz16_0
    try clear hcz16_1
    try clear hcz16_2
    try clear hcz16_3
    try clear hcz19_0
    try clear hcz19_1
    try clear hcz19_2
    try clear hcz19_3
    try clear hcz22_0
    try clear hcz22_1
    try clear hcz22_2
    try clear hcz22_3
    try clear hcz25_0
    try clear hcz25_1
    try clear hcz25_2
    try clear hcz25_3
    try clear hcz27_0
    try clear hcz27_1
    try clear hcz27_2
    try clear hcz27_3
    try clear hcz28_0
    try clear hcz28_1
    try clear hcz28_2
    try clear hcz28_3
    try clear hcz28_4
    try clear hcz28_5
    try clear hcz28_6
    try clear hcz28_7
    try clear hcz8_0
    try clear hcz8_1
    try clear hcz8_2
    try clear hcz8_3
    try clear hcz8_4
    try clear hcz8_5
    try clear hcz8_6
    try clear hcz8_7
    try clear hfz13_0
    try clear hfz13_1
    try clear hfz13_2
    try clear hfz13_3
    try clear hfz16_0
    try clear hfz16_1
    try clear hfz16_2
    try clear hfz16_3
    try clear hfz19_0
    try clear hfz19_1
    try clear hfz19_2
    try clear hfz19_3
    try clear hfz22_0
    try clear hfz22_1
    try clear hfz22_2
    try clear hfz22_3
    try clear hfz25_0
    try clear hfz25_1
    try clear hfz25_2
    try clear hfz25_3
    try clear hfz27_0
    try clear hfz27_1
    try clear hfz27_2
    try clear hfz27_3
    try clear hfz28_0
    try clear hfz28_1
    try clear hfz28_2
    try clear hfz28_3
    try clear hfz28_4
    try clear hfz28_5
    try clear hfz28_6
    try clear hfz28_7
    try clear hfz8_0
    try clear hfz8_1
    try clear hfz8_2
    try clear hfz8_3
    try clear hfz8_4
    try clear hfz8_5
    try clear hfz8_6
    try clear hfz8_7
    obtain ⟨kq, x41_3, rfl, HA, HJ3, BK208, BK209, HB⟩ := hcut
    cases kq with
    | zero => exact absurd HA.out (by simp [chargeparkref12_Valid.j0])
    | succ kj3 =>
      have H := HA.out
      clear HA
      simp only [chargeparkref12_Valid.j0] at H
      by_cases c29 : x41_3 = true
      · subst c29
        have H1 : (some false) = some r := by rw [if_pos rfl] at H; exact H
        clear H
        have H := H1
        clear H1
        obtain rfl := Option.some.inj H
        simp only [Option.some.injEq, Prod.mk.injEq] at H
        obtain ⟨rfl⟩ := H
        go_wp2
        go_ret
        exact ⟨by first | rfl | (simp [errW_none, errW_some] <;> rfl) | (simp [*, errW_none, errW_some] <;> rfl), by repeat (first | (with_reducible first | exact HB.out | apply below_alloc | apply pw_below_drewN | apply below_drew1 | refine below_set ?_ GE208.out | refine below_set ?_ GE209.out) | exact HB.out)⟩
      · replace c29 := Bool.eq_false_iff.mpr c29
        subst c29
        have H1 : (if a1_2 = 0 then (if a1_1 = 0 then (if a1_3 = true then (some (a1_0 == 5)) else (some true)) else (some false)) else (if a1_3 = true then (some (a1_0 == 5)) else (some true))) = some r := by rw [if_neg (show ¬ (false = true) by decide)] at H; exact H
        clear H
        have H := H1
        clear H1
        by_cases c30 : a1_2 = 0
        · rw [if_pos c30] at H
          have c30b0 : (a1_2 == 0) = true := beq_iff_eq.mpr c30
          have c30b1 : (a1_2 != 0) = false := bne_eq_false_iff_eq.mpr c30
          clear c30
          by_cases c31 : a1_1 = 0
          · rw [if_pos c31] at H
            have c31b0 : (a1_1 == 0) = true := beq_iff_eq.mpr c31
            have c31b1 : (a1_1 != 0) = false := bne_eq_false_iff_eq.mpr c31
            clear c31
            by_cases c32 : a1_3 = true
            · subst c32
              have H1 : (some (a1_0 == 5)) = some r := by rw [if_pos rfl] at H; exact H
              clear H
              have H := H1
              clear H1
              obtain rfl := Option.some.inj H
              simp only [Option.some.injEq, Prod.mk.injEq] at H
              obtain ⟨rfl⟩ := H
              have hnb33 := NB209_208.out
              have hnc33 := NB208_209.out
              have hcz34_0 : wc.cell? ⟨gb209, 0, none⟩ = some (.int .i64 a1_0) := (blk_cell BK209.out 0).trans rfl
              have hcz34_1 : wc.cell? ⟨gb209, 1, none⟩ = some (.int .i64 a1_1) := (blk_cell BK209.out 1).trans rfl
              have hcz34_2 : wc.cell? ⟨gb209, 2, none⟩ = some (.int .i64 a1_2) := (blk_cell BK209.out 2).trans rfl
              have hcz34_3 : wc.cell? ⟨gb209, 3, none⟩ = some (.bool true) := (blk_cell BK209.out 3).trans rfl
              have hfz34_0 := blk_frozen BK209.out 0
              have hfz34_1 := blk_frozen BK209.out 1
              have hfz34_2 := blk_frozen BK209.out 2
              have hfz34_3 := blk_frozen BK209.out 3
              go_wp2
              go_ret
              exact ⟨by first | rfl | (simp [errW_none, errW_some] <;> rfl) | (simp [*, errW_none, errW_some] <;> rfl), by repeat (first | (with_reducible first | exact HB.out | apply below_alloc | apply pw_below_drewN | apply below_drew1 | refine below_set ?_ GE208.out | refine below_set ?_ GE209.out) | exact HB.out)⟩
            · replace c32 := Bool.eq_false_iff.mpr c32
              subst c32
              have H1 : (some true) = some r := by rw [if_neg (show ¬ (false = true) by decide)] at H; exact H
              clear H
              have H := H1
              clear H1
              obtain rfl := Option.some.inj H
              simp only [Option.some.injEq, Prod.mk.injEq] at H
              obtain ⟨rfl⟩ := H
              have hnb35 := NB209_208.out
              have hnc35 := NB208_209.out
              have hcz36_0 : wc.cell? ⟨gb209, 0, none⟩ = some (.int .i64 a1_0) := (blk_cell BK209.out 0).trans rfl
              have hcz36_1 : wc.cell? ⟨gb209, 1, none⟩ = some (.int .i64 a1_1) := (blk_cell BK209.out 1).trans rfl
              have hcz36_2 : wc.cell? ⟨gb209, 2, none⟩ = some (.int .i64 a1_2) := (blk_cell BK209.out 2).trans rfl
              have hcz36_3 : wc.cell? ⟨gb209, 3, none⟩ = some (.bool false) := (blk_cell BK209.out 3).trans rfl
              have hfz36_0 := blk_frozen BK209.out 0
              have hfz36_1 := blk_frozen BK209.out 1
              have hfz36_2 := blk_frozen BK209.out 2
              have hfz36_3 := blk_frozen BK209.out 3
              go_wp2
              go_ret
              exact ⟨by first | rfl | (simp [errW_none, errW_some] <;> rfl) | (simp [*, errW_none, errW_some] <;> rfl), by repeat (first | (with_reducible first | exact HB.out | apply below_alloc | apply pw_below_drewN | apply below_drew1 | refine below_set ?_ GE208.out | refine below_set ?_ GE209.out) | exact HB.out)⟩
          · rw [if_neg c31] at H
            have c31b0 : (a1_1 == 0) = false := beq_eq_false_iff_ne.mpr c31
            have c31b1 : (a1_1 != 0) = true := bne_iff_ne.mpr c31
            obtain rfl := Option.some.inj H
            simp only [Option.some.injEq, Prod.mk.injEq] at H
            obtain ⟨rfl⟩ := H
            have hnb37 := NB209_208.out
            have hnc37 := NB208_209.out
            have hcz38_0 : wc.cell? ⟨gb209, 0, none⟩ = some (.int .i64 a1_0) := (blk_cell BK209.out 0).trans rfl
            have hcz38_1 : wc.cell? ⟨gb209, 1, none⟩ = some (.int .i64 a1_1) := (blk_cell BK209.out 1).trans rfl
            have hcz38_2 : wc.cell? ⟨gb209, 2, none⟩ = some (.int .i64 a1_2) := (blk_cell BK209.out 2).trans rfl
            have hcz38_3 : wc.cell? ⟨gb209, 3, none⟩ = some (.bool a1_3) := (blk_cell BK209.out 3).trans rfl
            have hfz38_0 := blk_frozen BK209.out 0
            have hfz38_1 := blk_frozen BK209.out 1
            have hfz38_2 := blk_frozen BK209.out 2
            have hfz38_3 := blk_frozen BK209.out 3
            go_wp2
            go_ret
            exact ⟨by first | rfl | (simp [errW_none, errW_some] <;> rfl) | (simp [*, errW_none, errW_some] <;> rfl), by repeat (first | (with_reducible first | exact HB.out | apply below_alloc | apply pw_below_drewN | apply below_drew1 | refine below_set ?_ GE208.out | refine below_set ?_ GE209.out) | exact HB.out)⟩
        · rw [if_neg c30] at H
          have c30b0 : (a1_2 == 0) = false := beq_eq_false_iff_ne.mpr c30
          have c30b1 : (a1_2 != 0) = true := bne_iff_ne.mpr c30
          by_cases c39 : a1_3 = true
          · subst c39
            have H1 : (some (a1_0 == 5)) = some r := by rw [if_pos rfl] at H; exact H
            clear H
            have H := H1
            clear H1
            obtain rfl := Option.some.inj H
            simp only [Option.some.injEq, Prod.mk.injEq] at H
            obtain ⟨rfl⟩ := H
            have hnb40 := NB209_208.out
            have hnc40 := NB208_209.out
            have hcz41_0 : wc.cell? ⟨gb209, 0, none⟩ = some (.int .i64 a1_0) := (blk_cell BK209.out 0).trans rfl
            have hcz41_1 : wc.cell? ⟨gb209, 1, none⟩ = some (.int .i64 a1_1) := (blk_cell BK209.out 1).trans rfl
            have hcz41_2 : wc.cell? ⟨gb209, 2, none⟩ = some (.int .i64 a1_2) := (blk_cell BK209.out 2).trans rfl
            have hcz41_3 : wc.cell? ⟨gb209, 3, none⟩ = some (.bool true) := (blk_cell BK209.out 3).trans rfl
            have hfz41_0 := blk_frozen BK209.out 0
            have hfz41_1 := blk_frozen BK209.out 1
            have hfz41_2 := blk_frozen BK209.out 2
            have hfz41_3 := blk_frozen BK209.out 3
            go_wp2
            go_ret
            exact ⟨by first | rfl | (simp [errW_none, errW_some] <;> rfl) | (simp [*, errW_none, errW_some] <;> rfl), by repeat (first | (with_reducible first | exact HB.out | apply below_alloc | apply pw_below_drewN | apply below_drew1 | refine below_set ?_ GE208.out | refine below_set ?_ GE209.out) | exact HB.out)⟩
          · replace c39 := Bool.eq_false_iff.mpr c39
            subst c39
            have H1 : (some true) = some r := by rw [if_neg (show ¬ (false = true) by decide)] at H; exact H
            clear H
            have H := H1
            clear H1
            obtain rfl := Option.some.inj H
            simp only [Option.some.injEq, Prod.mk.injEq] at H
            obtain ⟨rfl⟩ := H
            have hnb42 := NB209_208.out
            have hnc42 := NB208_209.out
            have hcz43_0 : wc.cell? ⟨gb209, 0, none⟩ = some (.int .i64 a1_0) := (blk_cell BK209.out 0).trans rfl
            have hcz43_1 : wc.cell? ⟨gb209, 1, none⟩ = some (.int .i64 a1_1) := (blk_cell BK209.out 1).trans rfl
            have hcz43_2 : wc.cell? ⟨gb209, 2, none⟩ = some (.int .i64 a1_2) := (blk_cell BK209.out 2).trans rfl
            have hcz43_3 : wc.cell? ⟨gb209, 3, none⟩ = some (.bool false) := (blk_cell BK209.out 3).trans rfl
            have hfz43_0 := blk_frozen BK209.out 0
            have hfz43_1 := blk_frozen BK209.out 1
            have hfz43_2 := blk_frozen BK209.out 2
            have hfz43_3 := blk_frozen BK209.out 3
            go_wp2
            go_ret
            exact ⟨by first | rfl | (simp [errW_none, errW_some] <;> rfl) | (simp [*, errW_none, errW_some] <;> rfl), by repeat (first | (with_reducible first | exact HB.out | apply below_alloc | apply pw_below_drewN | apply below_drew1 | refine below_set ?_ GE208.out | refine below_set ?_ GE209.out) | exact HB.out)⟩

/-! ### chargeparkref12_Fits: function 24 -/
def chargeparkref12_Fits.f (a0_0 : ByteArray) (a0_1 : Int) (a0_2 : Int) (a0_3 : Int) (a0_4 : Int) (a0_5 : Int) (a0_6 : Int) (a0_7 : Int) (a1_0 : Int) (a1_1 : Int) (a1_2 : Int) : Option (Bool) := if a1_0 = 4 then (if a1_1 = 0 then (some true) else (some (a1_1 == 1))) else (if a1_0 = 6 then (if a1_1 ≥ 0 then (some (decide (a1_1 ≤ 2))) else (some false)) else (if a1_0 = 7 then (if a1_1 ≥ 0 then (if a1_1 ≤ a0_4 then (if a1_2 ≥ 1 then (some (decide (a1_2 ≤ 1000000))) else (some false)) else (some false)) else (some false)) else (some true)))
set_option maxHeartbeats 8000000 in
set_option maxRecDepth 100000 in
theorem chargeparkref12_Fits.calls (a0_0 : ByteArray) (a0_1 : Int) (a0_2 : Int) (a0_3 : Int) (a0_4 : Int) (a0_5 : Int) (a0_6 : Int) (a0_7 : Int) (a1_0 : Int) (a1_1 : Int) (a1_2 : Int) (r : Bool) (w : World) (h : chargeparkref12_Fits.f a0_0 a0_1 a0_2 a0_3 a0_4 a0_5 a0_6 a0_7 a1_0 a1_1 a1_2 = some r) :
    Calls Tryd.prog 24 #[.agg #[.string a0_0, .int .i64 a0_1, .int .i64 a0_2, .int .i64 a0_3, .int .i64 a0_4, .int .i64 a0_5, .int .i64 a0_6, .int .i64 a0_7], .agg #[.int .i64 a1_0, .int .i64 a1_1, .int .i64 a1_2]] w fun e w' => e = .returned (.bool r) ∧ Below w.heap.size w w' := by
  have hu23 := Tryd.underlying23
  have hu27 := Tryd.underlying27
  have HB := Aside0.mk (Below.refl w.heap.size w)
  have H : (if a1_0 = 4 then (if a1_1 = 0 then (some true) else (some (a1_1 == 1))) else (if a1_0 = 6 then (if a1_1 ≥ 0 then (some (decide (a1_1 ≤ 2))) else (some false)) else (if a1_0 = 7 then (if a1_1 ≥ 0 then (if a1_1 ≤ a0_4 then (if a1_2 ≥ 1 then (some (decide (a1_2 ≤ 1000000))) else (some false)) else (some false)) else (some false)) else (some true)))) = some r := h
  clear h
  by_cases c3 : a1_0 = 4
  · rw [if_pos c3] at H
    have c3b0 : (a1_0 == 4) = true := beq_iff_eq.mpr c3
    have c3b1 : (a1_0 != 4) = false := bne_eq_false_iff_eq.mpr c3
    clear c3
    by_cases c4 : a1_1 = 0
    · rw [if_pos c4] at H
      have c4b0 : (a1_1 == 0) = true := beq_iff_eq.mpr c4
      have c4b1 : (a1_1 != 0) = false := bne_eq_false_iff_eq.mpr c4
      clear c4
      obtain rfl := Option.some.inj H
      simp only [Option.some.injEq, Prod.mk.injEq] at H
      obtain ⟨rfl⟩ := H
      go_enter Tryd.func24, Tryd.ntmps24
      go_wp2_with (first | ((with_reducible refine gate_dst (N := 2) rfl ?_); refine box_event ?hg (N := 2) ?hd (cs := #[.string a0_0, .int .i64 a0_1, .int .i64 a0_2, .int .i64 a0_3, .int .i64 a0_4, .int .i64 a0_5, .int .i64 a0_6, .int .i64 a0_7]) (t := 23) ?hr ?_; (case hd => rfl); (case hg => rfl); (case hr => first | (go_simp; done) | (go_simp; rfl)); intro gb211 hg w5 hbox hb; have n0_ := Aside0.mk (below_step (by repeat (first | (with_reducible first | exact HB.out | apply below_alloc | apply pw_below_drewN | apply below_drew1) | exact HB.out)) hb); have n1_ := Aside0.mk (hbox); have n2_ := Aside0.mk ((by rw [hg]; exact (below_size (by repeat (first | (with_reducible first | exact HB.out | apply below_alloc | apply pw_below_drewN | apply below_drew1) | exact HB.out))) : w.heap.size ≤ gb211)); have n3_ := Aside0.mk ((by rw [hg]; exact (below_size (by repeat (first | (with_reducible first | exact HB.out | apply below_alloc | apply pw_below_drewN | apply below_drew1) | exact HB.out))) : w.heap.size ≤ gb211)); clear HB; have HB := n0_; have BK211 := n1_; have GW211 := n2_; have GE211 := n3_; clear n0_ n1_ n2_ n3_; clear hb hbox hg) | ((with_reducible refine gate_dst (N := 3) rfl ?_); refine box_event ?hg (N := 3) ?hd (cs := #[.int .i64 a1_0, .int .i64 a1_1, .int .i64 a1_2]) (t := 27) ?hr ?_; (case hd => rfl); (case hg => rfl); (case hr => first | (go_simp; done) | (go_simp; rfl)); intro gb212 hg w6 hbox hb; have n0_ := Aside0.mk (blk_below (g := gb211) (o := .cells #[.string a0_0, .int .i64 a0_1, .int .i64 a0_2, .int .i64 a0_3, .int .i64 a0_4, .int .i64 a0_5, .int .i64 a0_6, .int .i64 a0_7] 23 (0, 0)) (by (with_reducible repeat (first | refine blk_drewN ?_ _ | refine blk_drew ?_ | refine blk_alloc ?_ _)); exact BK211.out) hb); have n1_ := Aside0.mk (below_step (by repeat (first | (with_reducible first | exact HB.out | apply below_alloc | apply pw_below_drewN | apply below_drew1 | refine below_set ?_ GE211.out) | exact HB.out)) hb); have n2_ := Aside0.mk (hbox); have n3_ := Aside0.mk ((by rw [hg]; exact (below_size (by repeat (first | (with_reducible first | exact HB.out | apply below_alloc | apply pw_below_drewN | apply below_drew1 | refine below_set ?_ GE211.out) | exact HB.out))) : w.heap.size ≤ gb212)); have n4_ := Aside0.mk ((by rw [hg]; exact (below_size (by repeat (first | (with_reducible first | exact HB.out | apply below_alloc | apply pw_below_drewN | apply below_drew1 | refine below_set ?_ GE211.out) | exact HB.out))) : w.heap.size ≤ gb212)); have n5_ := Aside0.mk ((by rw [hg]; exact Nat.ne_of_lt (blk_lt (g := gb211) (o := .cells #[.string a0_0, .int .i64 a0_1, .int .i64 a0_2, .int .i64 a0_3, .int .i64 a0_4, .int .i64 a0_5, .int .i64 a0_6, .int .i64 a0_7] 23 (0, 0)) (by (with_reducible repeat (first | refine blk_drewN ?_ _ | refine blk_drew ?_ | refine blk_alloc ?_ _)); exact BK211.out)) : gb211 ≠ gb212)); have n6_ := Aside0.mk ((by rw [hg]; exact Nat.ne_of_gt (blk_lt (g := gb211) (o := .cells #[.string a0_0, .int .i64 a0_1, .int .i64 a0_2, .int .i64 a0_3, .int .i64 a0_4, .int .i64 a0_5, .int .i64 a0_6, .int .i64 a0_7] 23 (0, 0)) (by (with_reducible repeat (first | refine blk_drewN ?_ _ | refine blk_drew ?_ | refine blk_alloc ?_ _)); exact BK211.out)) : gb212 ≠ gb211)); clear BK211; clear HB; have BK211 := n0_; have HB := n1_; have BK212 := n2_; have GW212 := n3_; have GE212 := n4_; have NB211_212 := n5_; have NB212_211 := n6_; clear n0_ n1_ n2_ n3_ n4_ n5_ n6_; clear hb hbox hg; have hnb7 := NB212_211.out; have hnc7 := NB211_212.out; have hcz8_0 : w6.cell? ⟨gb212, 0, none⟩ = some (.int .i64 a1_0) := (blk_cell BK212.out 0).trans rfl; have hcz8_1 : w6.cell? ⟨gb212, 1, none⟩ = some (.int .i64 a1_1) := (blk_cell BK212.out 1).trans rfl; have hcz8_2 : w6.cell? ⟨gb212, 2, none⟩ = some (.int .i64 a1_2) := (blk_cell BK212.out 2).trans rfl; have hfz8_0 := blk_frozen BK212.out 0; have hfz8_1 := blk_frozen BK212.out 1; have hfz8_2 := blk_frozen BK212.out 2))
      go_ret
      exact ⟨by first | rfl | (simp [errW_none, errW_some] <;> rfl) | (simp [*, errW_none, errW_some] <;> rfl), by repeat (first | (with_reducible first | exact HB.out | apply below_alloc | apply pw_below_drewN | apply below_drew1 | refine below_set ?_ GE211.out | refine below_set ?_ GE212.out) | exact HB.out)⟩
    · rw [if_neg c4] at H
      have c4b0 : (a1_1 == 0) = false := beq_eq_false_iff_ne.mpr c4
      have c4b1 : (a1_1 != 0) = true := bne_iff_ne.mpr c4
      obtain rfl := Option.some.inj H
      simp only [Option.some.injEq, Prod.mk.injEq] at H
      obtain ⟨rfl⟩ := H
      go_enter Tryd.func24, Tryd.ntmps24
      go_wp2_with (first | ((with_reducible refine gate_dst (N := 2) rfl ?_); refine box_event ?hg (N := 2) ?hd (cs := #[.string a0_0, .int .i64 a0_1, .int .i64 a0_2, .int .i64 a0_3, .int .i64 a0_4, .int .i64 a0_5, .int .i64 a0_6, .int .i64 a0_7]) (t := 23) ?hr ?_; (case hd => rfl); (case hg => rfl); (case hr => first | (go_simp; done) | (go_simp; rfl)); intro gb211 hg w9 hbox hb; have n0_ := Aside0.mk (below_step (by repeat (first | (with_reducible first | exact HB.out | apply below_alloc | apply pw_below_drewN | apply below_drew1) | exact HB.out)) hb); have n1_ := Aside0.mk (hbox); have n2_ := Aside0.mk ((by rw [hg]; exact (below_size (by repeat (first | (with_reducible first | exact HB.out | apply below_alloc | apply pw_below_drewN | apply below_drew1) | exact HB.out))) : w.heap.size ≤ gb211)); have n3_ := Aside0.mk ((by rw [hg]; exact (below_size (by repeat (first | (with_reducible first | exact HB.out | apply below_alloc | apply pw_below_drewN | apply below_drew1) | exact HB.out))) : w.heap.size ≤ gb211)); clear HB; have HB := n0_; have BK211 := n1_; have GW211 := n2_; have GE211 := n3_; clear n0_ n1_ n2_ n3_; clear hb hbox hg) | ((with_reducible refine gate_dst (N := 3) rfl ?_); refine box_event ?hg (N := 3) ?hd (cs := #[.int .i64 a1_0, .int .i64 a1_1, .int .i64 a1_2]) (t := 27) ?hr ?_; (case hd => rfl); (case hg => rfl); (case hr => first | (go_simp; done) | (go_simp; rfl)); intro gb212 hg w10 hbox hb; have n0_ := Aside0.mk (blk_below (g := gb211) (o := .cells #[.string a0_0, .int .i64 a0_1, .int .i64 a0_2, .int .i64 a0_3, .int .i64 a0_4, .int .i64 a0_5, .int .i64 a0_6, .int .i64 a0_7] 23 (0, 0)) (by (with_reducible repeat (first | refine blk_drewN ?_ _ | refine blk_drew ?_ | refine blk_alloc ?_ _)); exact BK211.out) hb); have n1_ := Aside0.mk (below_step (by repeat (first | (with_reducible first | exact HB.out | apply below_alloc | apply pw_below_drewN | apply below_drew1 | refine below_set ?_ GE211.out) | exact HB.out)) hb); have n2_ := Aside0.mk (hbox); have n3_ := Aside0.mk ((by rw [hg]; exact (below_size (by repeat (first | (with_reducible first | exact HB.out | apply below_alloc | apply pw_below_drewN | apply below_drew1 | refine below_set ?_ GE211.out) | exact HB.out))) : w.heap.size ≤ gb212)); have n4_ := Aside0.mk ((by rw [hg]; exact (below_size (by repeat (first | (with_reducible first | exact HB.out | apply below_alloc | apply pw_below_drewN | apply below_drew1 | refine below_set ?_ GE211.out) | exact HB.out))) : w.heap.size ≤ gb212)); have n5_ := Aside0.mk ((by rw [hg]; exact Nat.ne_of_lt (blk_lt (g := gb211) (o := .cells #[.string a0_0, .int .i64 a0_1, .int .i64 a0_2, .int .i64 a0_3, .int .i64 a0_4, .int .i64 a0_5, .int .i64 a0_6, .int .i64 a0_7] 23 (0, 0)) (by (with_reducible repeat (first | refine blk_drewN ?_ _ | refine blk_drew ?_ | refine blk_alloc ?_ _)); exact BK211.out)) : gb211 ≠ gb212)); have n6_ := Aside0.mk ((by rw [hg]; exact Nat.ne_of_gt (blk_lt (g := gb211) (o := .cells #[.string a0_0, .int .i64 a0_1, .int .i64 a0_2, .int .i64 a0_3, .int .i64 a0_4, .int .i64 a0_5, .int .i64 a0_6, .int .i64 a0_7] 23 (0, 0)) (by (with_reducible repeat (first | refine blk_drewN ?_ _ | refine blk_drew ?_ | refine blk_alloc ?_ _)); exact BK211.out)) : gb212 ≠ gb211)); clear BK211; clear HB; have BK211 := n0_; have HB := n1_; have BK212 := n2_; have GW212 := n3_; have GE212 := n4_; have NB211_212 := n5_; have NB212_211 := n6_; clear n0_ n1_ n2_ n3_ n4_ n5_ n6_; clear hb hbox hg; have hnb11 := NB212_211.out; have hnc11 := NB211_212.out; have hcz12_0 : w10.cell? ⟨gb212, 0, none⟩ = some (.int .i64 a1_0) := (blk_cell BK212.out 0).trans rfl; have hcz12_1 : w10.cell? ⟨gb212, 1, none⟩ = some (.int .i64 a1_1) := (blk_cell BK212.out 1).trans rfl; have hcz12_2 : w10.cell? ⟨gb212, 2, none⟩ = some (.int .i64 a1_2) := (blk_cell BK212.out 2).trans rfl; have hfz12_0 := blk_frozen BK212.out 0; have hfz12_1 := blk_frozen BK212.out 1; have hfz12_2 := blk_frozen BK212.out 2))
      go_ret
      exact ⟨by first | rfl | (simp [errW_none, errW_some] <;> rfl) | (simp [*, errW_none, errW_some] <;> rfl), by repeat (first | (with_reducible first | exact HB.out | apply below_alloc | apply pw_below_drewN | apply below_drew1 | refine below_set ?_ GE211.out | refine below_set ?_ GE212.out) | exact HB.out)⟩
  · rw [if_neg c3] at H
    have c3b0 : (a1_0 == 4) = false := beq_eq_false_iff_ne.mpr c3
    have c3b1 : (a1_0 != 4) = true := bne_iff_ne.mpr c3
    by_cases c13 : a1_0 = 6
    · rw [if_pos c13] at H
      have c13b0 : (a1_0 == 6) = true := beq_iff_eq.mpr c13
      have c13b1 : (a1_0 != 6) = false := bne_eq_false_iff_eq.mpr c13
      clear c13
      by_cases c14 : a1_1 ≥ 0
      · rw [if_pos c14] at H
        have c14b0 : decide (0 ≤ a1_1) = true := decide_eq_true c14
        clear c14
        obtain rfl := Option.some.inj H
        simp only [Option.some.injEq, Prod.mk.injEq] at H
        obtain ⟨rfl⟩ := H
        go_enter Tryd.func24, Tryd.ntmps24
        go_wp2_with (first | ((with_reducible refine gate_dst (N := 2) rfl ?_); refine box_event ?hg (N := 2) ?hd (cs := #[.string a0_0, .int .i64 a0_1, .int .i64 a0_2, .int .i64 a0_3, .int .i64 a0_4, .int .i64 a0_5, .int .i64 a0_6, .int .i64 a0_7]) (t := 23) ?hr ?_; (case hd => rfl); (case hg => rfl); (case hr => first | (go_simp; done) | (go_simp; rfl)); intro gb211 hg w15 hbox hb; have n0_ := Aside0.mk (below_step (by repeat (first | (with_reducible first | exact HB.out | apply below_alloc | apply pw_below_drewN | apply below_drew1) | exact HB.out)) hb); have n1_ := Aside0.mk (hbox); have n2_ := Aside0.mk ((by rw [hg]; exact (below_size (by repeat (first | (with_reducible first | exact HB.out | apply below_alloc | apply pw_below_drewN | apply below_drew1) | exact HB.out))) : w.heap.size ≤ gb211)); have n3_ := Aside0.mk ((by rw [hg]; exact (below_size (by repeat (first | (with_reducible first | exact HB.out | apply below_alloc | apply pw_below_drewN | apply below_drew1) | exact HB.out))) : w.heap.size ≤ gb211)); clear HB; have HB := n0_; have BK211 := n1_; have GW211 := n2_; have GE211 := n3_; clear n0_ n1_ n2_ n3_; clear hb hbox hg) | ((with_reducible refine gate_dst (N := 3) rfl ?_); refine box_event ?hg (N := 3) ?hd (cs := #[.int .i64 a1_0, .int .i64 a1_1, .int .i64 a1_2]) (t := 27) ?hr ?_; (case hd => rfl); (case hg => rfl); (case hr => first | (go_simp; done) | (go_simp; rfl)); intro gb212 hg w16 hbox hb; have n0_ := Aside0.mk (blk_below (g := gb211) (o := .cells #[.string a0_0, .int .i64 a0_1, .int .i64 a0_2, .int .i64 a0_3, .int .i64 a0_4, .int .i64 a0_5, .int .i64 a0_6, .int .i64 a0_7] 23 (0, 0)) (by (with_reducible repeat (first | refine blk_drewN ?_ _ | refine blk_drew ?_ | refine blk_alloc ?_ _)); exact BK211.out) hb); have n1_ := Aside0.mk (below_step (by repeat (first | (with_reducible first | exact HB.out | apply below_alloc | apply pw_below_drewN | apply below_drew1 | refine below_set ?_ GE211.out) | exact HB.out)) hb); have n2_ := Aside0.mk (hbox); have n3_ := Aside0.mk ((by rw [hg]; exact (below_size (by repeat (first | (with_reducible first | exact HB.out | apply below_alloc | apply pw_below_drewN | apply below_drew1 | refine below_set ?_ GE211.out) | exact HB.out))) : w.heap.size ≤ gb212)); have n4_ := Aside0.mk ((by rw [hg]; exact (below_size (by repeat (first | (with_reducible first | exact HB.out | apply below_alloc | apply pw_below_drewN | apply below_drew1 | refine below_set ?_ GE211.out) | exact HB.out))) : w.heap.size ≤ gb212)); have n5_ := Aside0.mk ((by rw [hg]; exact Nat.ne_of_lt (blk_lt (g := gb211) (o := .cells #[.string a0_0, .int .i64 a0_1, .int .i64 a0_2, .int .i64 a0_3, .int .i64 a0_4, .int .i64 a0_5, .int .i64 a0_6, .int .i64 a0_7] 23 (0, 0)) (by (with_reducible repeat (first | refine blk_drewN ?_ _ | refine blk_drew ?_ | refine blk_alloc ?_ _)); exact BK211.out)) : gb211 ≠ gb212)); have n6_ := Aside0.mk ((by rw [hg]; exact Nat.ne_of_gt (blk_lt (g := gb211) (o := .cells #[.string a0_0, .int .i64 a0_1, .int .i64 a0_2, .int .i64 a0_3, .int .i64 a0_4, .int .i64 a0_5, .int .i64 a0_6, .int .i64 a0_7] 23 (0, 0)) (by (with_reducible repeat (first | refine blk_drewN ?_ _ | refine blk_drew ?_ | refine blk_alloc ?_ _)); exact BK211.out)) : gb212 ≠ gb211)); clear BK211; clear HB; have BK211 := n0_; have HB := n1_; have BK212 := n2_; have GW212 := n3_; have GE212 := n4_; have NB211_212 := n5_; have NB212_211 := n6_; clear n0_ n1_ n2_ n3_ n4_ n5_ n6_; clear hb hbox hg; have hnb17 := NB212_211.out; have hnc17 := NB211_212.out; have hcz18_0 : w16.cell? ⟨gb212, 0, none⟩ = some (.int .i64 a1_0) := (blk_cell BK212.out 0).trans rfl; have hcz18_1 : w16.cell? ⟨gb212, 1, none⟩ = some (.int .i64 a1_1) := (blk_cell BK212.out 1).trans rfl; have hcz18_2 : w16.cell? ⟨gb212, 2, none⟩ = some (.int .i64 a1_2) := (blk_cell BK212.out 2).trans rfl; have hfz18_0 := blk_frozen BK212.out 0; have hfz18_1 := blk_frozen BK212.out 1; have hfz18_2 := blk_frozen BK212.out 2))
        go_ret
        exact ⟨by first | rfl | (simp [errW_none, errW_some] <;> rfl) | (simp [*, errW_none, errW_some] <;> rfl), by repeat (first | (with_reducible first | exact HB.out | apply below_alloc | apply pw_below_drewN | apply below_drew1 | refine below_set ?_ GE211.out | refine below_set ?_ GE212.out) | exact HB.out)⟩
      · rw [if_neg c14] at H
        have c14b0 : decide (0 ≤ a1_1) = false := decide_eq_false c14
        clear c14
        obtain rfl := Option.some.inj H
        simp only [Option.some.injEq, Prod.mk.injEq] at H
        obtain ⟨rfl⟩ := H
        go_enter Tryd.func24, Tryd.ntmps24
        go_wp2_with (first | ((with_reducible refine gate_dst (N := 2) rfl ?_); refine box_event ?hg (N := 2) ?hd (cs := #[.string a0_0, .int .i64 a0_1, .int .i64 a0_2, .int .i64 a0_3, .int .i64 a0_4, .int .i64 a0_5, .int .i64 a0_6, .int .i64 a0_7]) (t := 23) ?hr ?_; (case hd => rfl); (case hg => rfl); (case hr => first | (go_simp; done) | (go_simp; rfl)); intro gb211 hg w19 hbox hb; have n0_ := Aside0.mk (below_step (by repeat (first | (with_reducible first | exact HB.out | apply below_alloc | apply pw_below_drewN | apply below_drew1) | exact HB.out)) hb); have n1_ := Aside0.mk (hbox); have n2_ := Aside0.mk ((by rw [hg]; exact (below_size (by repeat (first | (with_reducible first | exact HB.out | apply below_alloc | apply pw_below_drewN | apply below_drew1) | exact HB.out))) : w.heap.size ≤ gb211)); have n3_ := Aside0.mk ((by rw [hg]; exact (below_size (by repeat (first | (with_reducible first | exact HB.out | apply below_alloc | apply pw_below_drewN | apply below_drew1) | exact HB.out))) : w.heap.size ≤ gb211)); clear HB; have HB := n0_; have BK211 := n1_; have GW211 := n2_; have GE211 := n3_; clear n0_ n1_ n2_ n3_; clear hb hbox hg) | ((with_reducible refine gate_dst (N := 3) rfl ?_); refine box_event ?hg (N := 3) ?hd (cs := #[.int .i64 a1_0, .int .i64 a1_1, .int .i64 a1_2]) (t := 27) ?hr ?_; (case hd => rfl); (case hg => rfl); (case hr => first | (go_simp; done) | (go_simp; rfl)); intro gb212 hg w20 hbox hb; have n0_ := Aside0.mk (blk_below (g := gb211) (o := .cells #[.string a0_0, .int .i64 a0_1, .int .i64 a0_2, .int .i64 a0_3, .int .i64 a0_4, .int .i64 a0_5, .int .i64 a0_6, .int .i64 a0_7] 23 (0, 0)) (by (with_reducible repeat (first | refine blk_drewN ?_ _ | refine blk_drew ?_ | refine blk_alloc ?_ _)); exact BK211.out) hb); have n1_ := Aside0.mk (below_step (by repeat (first | (with_reducible first | exact HB.out | apply below_alloc | apply pw_below_drewN | apply below_drew1 | refine below_set ?_ GE211.out) | exact HB.out)) hb); have n2_ := Aside0.mk (hbox); have n3_ := Aside0.mk ((by rw [hg]; exact (below_size (by repeat (first | (with_reducible first | exact HB.out | apply below_alloc | apply pw_below_drewN | apply below_drew1 | refine below_set ?_ GE211.out) | exact HB.out))) : w.heap.size ≤ gb212)); have n4_ := Aside0.mk ((by rw [hg]; exact (below_size (by repeat (first | (with_reducible first | exact HB.out | apply below_alloc | apply pw_below_drewN | apply below_drew1 | refine below_set ?_ GE211.out) | exact HB.out))) : w.heap.size ≤ gb212)); have n5_ := Aside0.mk ((by rw [hg]; exact Nat.ne_of_lt (blk_lt (g := gb211) (o := .cells #[.string a0_0, .int .i64 a0_1, .int .i64 a0_2, .int .i64 a0_3, .int .i64 a0_4, .int .i64 a0_5, .int .i64 a0_6, .int .i64 a0_7] 23 (0, 0)) (by (with_reducible repeat (first | refine blk_drewN ?_ _ | refine blk_drew ?_ | refine blk_alloc ?_ _)); exact BK211.out)) : gb211 ≠ gb212)); have n6_ := Aside0.mk ((by rw [hg]; exact Nat.ne_of_gt (blk_lt (g := gb211) (o := .cells #[.string a0_0, .int .i64 a0_1, .int .i64 a0_2, .int .i64 a0_3, .int .i64 a0_4, .int .i64 a0_5, .int .i64 a0_6, .int .i64 a0_7] 23 (0, 0)) (by (with_reducible repeat (first | refine blk_drewN ?_ _ | refine blk_drew ?_ | refine blk_alloc ?_ _)); exact BK211.out)) : gb212 ≠ gb211)); clear BK211; clear HB; have BK211 := n0_; have HB := n1_; have BK212 := n2_; have GW212 := n3_; have GE212 := n4_; have NB211_212 := n5_; have NB212_211 := n6_; clear n0_ n1_ n2_ n3_ n4_ n5_ n6_; clear hb hbox hg; have hnb21 := NB212_211.out; have hnc21 := NB211_212.out; have hcz22_0 : w20.cell? ⟨gb212, 0, none⟩ = some (.int .i64 a1_0) := (blk_cell BK212.out 0).trans rfl; have hcz22_1 : w20.cell? ⟨gb212, 1, none⟩ = some (.int .i64 a1_1) := (blk_cell BK212.out 1).trans rfl; have hcz22_2 : w20.cell? ⟨gb212, 2, none⟩ = some (.int .i64 a1_2) := (blk_cell BK212.out 2).trans rfl; have hfz22_0 := blk_frozen BK212.out 0; have hfz22_1 := blk_frozen BK212.out 1; have hfz22_2 := blk_frozen BK212.out 2))
        go_ret
        exact ⟨by first | rfl | (simp [errW_none, errW_some] <;> rfl) | (simp [*, errW_none, errW_some] <;> rfl), by repeat (first | (with_reducible first | exact HB.out | apply below_alloc | apply pw_below_drewN | apply below_drew1 | refine below_set ?_ GE211.out | refine below_set ?_ GE212.out) | exact HB.out)⟩
    · rw [if_neg c13] at H
      have c13b0 : (a1_0 == 6) = false := beq_eq_false_iff_ne.mpr c13
      have c13b1 : (a1_0 != 6) = true := bne_iff_ne.mpr c13
      by_cases c23 : a1_0 = 7
      · rw [if_pos c23] at H
        have c23b0 : (a1_0 == 7) = true := beq_iff_eq.mpr c23
        have c23b1 : (a1_0 != 7) = false := bne_eq_false_iff_eq.mpr c23
        clear c23
        by_cases c24 : a1_1 ≥ 0
        · rw [if_pos c24] at H
          have c24b0 : decide (0 ≤ a1_1) = true := decide_eq_true c24
          clear c24
          by_cases c25 : a1_1 ≤ a0_4
          · rw [if_pos c25] at H
            have c25b0 : decide (a1_1 ≤ a0_4) = true := decide_eq_true c25
            clear c25
            by_cases c26 : a1_2 ≥ 1
            · rw [if_pos c26] at H
              have c26b0 : decide (1 ≤ a1_2) = true := decide_eq_true c26
              clear c26
              obtain rfl := Option.some.inj H
              simp only [Option.some.injEq, Prod.mk.injEq] at H
              obtain ⟨rfl⟩ := H
              go_enter Tryd.func24, Tryd.ntmps24
              go_wp2_with (first | ((with_reducible refine gate_dst (N := 2) rfl ?_); refine box_event ?hg (N := 2) ?hd (cs := #[.string a0_0, .int .i64 a0_1, .int .i64 a0_2, .int .i64 a0_3, .int .i64 a0_4, .int .i64 a0_5, .int .i64 a0_6, .int .i64 a0_7]) (t := 23) ?hr ?_; (case hd => rfl); (case hg => rfl); (case hr => first | (go_simp; done) | (go_simp; rfl)); intro gb211 hg w27 hbox hb; have n0_ := Aside0.mk (below_step (by repeat (first | (with_reducible first | exact HB.out | apply below_alloc | apply pw_below_drewN | apply below_drew1) | exact HB.out)) hb); have n1_ := Aside0.mk (hbox); have n2_ := Aside0.mk ((by rw [hg]; exact (below_size (by repeat (first | (with_reducible first | exact HB.out | apply below_alloc | apply pw_below_drewN | apply below_drew1) | exact HB.out))) : w.heap.size ≤ gb211)); have n3_ := Aside0.mk ((by rw [hg]; exact (below_size (by repeat (first | (with_reducible first | exact HB.out | apply below_alloc | apply pw_below_drewN | apply below_drew1) | exact HB.out))) : w.heap.size ≤ gb211)); clear HB; have HB := n0_; have BK211 := n1_; have GW211 := n2_; have GE211 := n3_; clear n0_ n1_ n2_ n3_; clear hb hbox hg) | ((with_reducible refine gate_dst (N := 3) rfl ?_); refine box_event ?hg (N := 3) ?hd (cs := #[.int .i64 a1_0, .int .i64 a1_1, .int .i64 a1_2]) (t := 27) ?hr ?_; (case hd => rfl); (case hg => rfl); (case hr => first | (go_simp; done) | (go_simp; rfl)); intro gb212 hg w28 hbox hb; have n0_ := Aside0.mk (blk_below (g := gb211) (o := .cells #[.string a0_0, .int .i64 a0_1, .int .i64 a0_2, .int .i64 a0_3, .int .i64 a0_4, .int .i64 a0_5, .int .i64 a0_6, .int .i64 a0_7] 23 (0, 0)) (by (with_reducible repeat (first | refine blk_drewN ?_ _ | refine blk_drew ?_ | refine blk_alloc ?_ _)); exact BK211.out) hb); have n1_ := Aside0.mk (below_step (by repeat (first | (with_reducible first | exact HB.out | apply below_alloc | apply pw_below_drewN | apply below_drew1 | refine below_set ?_ GE211.out) | exact HB.out)) hb); have n2_ := Aside0.mk (hbox); have n3_ := Aside0.mk ((by rw [hg]; exact (below_size (by repeat (first | (with_reducible first | exact HB.out | apply below_alloc | apply pw_below_drewN | apply below_drew1 | refine below_set ?_ GE211.out) | exact HB.out))) : w.heap.size ≤ gb212)); have n4_ := Aside0.mk ((by rw [hg]; exact (below_size (by repeat (first | (with_reducible first | exact HB.out | apply below_alloc | apply pw_below_drewN | apply below_drew1 | refine below_set ?_ GE211.out) | exact HB.out))) : w.heap.size ≤ gb212)); have n5_ := Aside0.mk ((by rw [hg]; exact Nat.ne_of_lt (blk_lt (g := gb211) (o := .cells #[.string a0_0, .int .i64 a0_1, .int .i64 a0_2, .int .i64 a0_3, .int .i64 a0_4, .int .i64 a0_5, .int .i64 a0_6, .int .i64 a0_7] 23 (0, 0)) (by (with_reducible repeat (first | refine blk_drewN ?_ _ | refine blk_drew ?_ | refine blk_alloc ?_ _)); exact BK211.out)) : gb211 ≠ gb212)); have n6_ := Aside0.mk ((by rw [hg]; exact Nat.ne_of_gt (blk_lt (g := gb211) (o := .cells #[.string a0_0, .int .i64 a0_1, .int .i64 a0_2, .int .i64 a0_3, .int .i64 a0_4, .int .i64 a0_5, .int .i64 a0_6, .int .i64 a0_7] 23 (0, 0)) (by (with_reducible repeat (first | refine blk_drewN ?_ _ | refine blk_drew ?_ | refine blk_alloc ?_ _)); exact BK211.out)) : gb212 ≠ gb211)); clear BK211; clear HB; have BK211 := n0_; have HB := n1_; have BK212 := n2_; have GW212 := n3_; have GE212 := n4_; have NB211_212 := n5_; have NB212_211 := n6_; clear n0_ n1_ n2_ n3_ n4_ n5_ n6_; clear hb hbox hg; have hnb29 := NB212_211.out; have hnc29 := NB211_212.out; have hcz30_0 : w28.cell? ⟨gb212, 0, none⟩ = some (.int .i64 a1_0) := (blk_cell BK212.out 0).trans rfl; have hcz30_1 : w28.cell? ⟨gb212, 1, none⟩ = some (.int .i64 a1_1) := (blk_cell BK212.out 1).trans rfl; have hcz30_2 : w28.cell? ⟨gb212, 2, none⟩ = some (.int .i64 a1_2) := (blk_cell BK212.out 2).trans rfl; have hfz30_0 := blk_frozen BK212.out 0; have hfz30_1 := blk_frozen BK212.out 1; have hfz30_2 := blk_frozen BK212.out 2; have hcz31_0 : w28.cell? ⟨gb211, 0, none⟩ = some (.string a0_0) := (blk_cell BK211.out 0).trans rfl; have hcz31_1 : w28.cell? ⟨gb211, 1, none⟩ = some (.int .i64 a0_1) := (blk_cell BK211.out 1).trans rfl; have hcz31_2 : w28.cell? ⟨gb211, 2, none⟩ = some (.int .i64 a0_2) := (blk_cell BK211.out 2).trans rfl; have hcz31_3 : w28.cell? ⟨gb211, 3, none⟩ = some (.int .i64 a0_3) := (blk_cell BK211.out 3).trans rfl; have hcz31_4 : w28.cell? ⟨gb211, 4, none⟩ = some (.int .i64 a0_4) := (blk_cell BK211.out 4).trans rfl; have hcz31_5 : w28.cell? ⟨gb211, 5, none⟩ = some (.int .i64 a0_5) := (blk_cell BK211.out 5).trans rfl; have hcz31_6 : w28.cell? ⟨gb211, 6, none⟩ = some (.int .i64 a0_6) := (blk_cell BK211.out 6).trans rfl; have hcz31_7 : w28.cell? ⟨gb211, 7, none⟩ = some (.int .i64 a0_7) := (blk_cell BK211.out 7).trans rfl; have hfz31_0 := blk_frozen BK211.out 0; have hfz31_1 := blk_frozen BK211.out 1; have hfz31_2 := blk_frozen BK211.out 2; have hfz31_3 := blk_frozen BK211.out 3; have hfz31_4 := blk_frozen BK211.out 4; have hfz31_5 := blk_frozen BK211.out 5; have hfz31_6 := blk_frozen BK211.out 6; have hfz31_7 := blk_frozen BK211.out 7))
              go_ret
              exact ⟨by first | rfl | (simp [errW_none, errW_some] <;> rfl) | (simp [*, errW_none, errW_some] <;> rfl), by repeat (first | (with_reducible first | exact HB.out | apply below_alloc | apply pw_below_drewN | apply below_drew1 | refine below_set ?_ GE211.out | refine below_set ?_ GE212.out) | exact HB.out)⟩
            · rw [if_neg c26] at H
              have c26b0 : decide (1 ≤ a1_2) = false := decide_eq_false c26
              clear c26
              obtain rfl := Option.some.inj H
              simp only [Option.some.injEq, Prod.mk.injEq] at H
              obtain ⟨rfl⟩ := H
              go_enter Tryd.func24, Tryd.ntmps24
              go_wp2_with (first | ((with_reducible refine gate_dst (N := 2) rfl ?_); refine box_event ?hg (N := 2) ?hd (cs := #[.string a0_0, .int .i64 a0_1, .int .i64 a0_2, .int .i64 a0_3, .int .i64 a0_4, .int .i64 a0_5, .int .i64 a0_6, .int .i64 a0_7]) (t := 23) ?hr ?_; (case hd => rfl); (case hg => rfl); (case hr => first | (go_simp; done) | (go_simp; rfl)); intro gb211 hg w32 hbox hb; have n0_ := Aside0.mk (below_step (by repeat (first | (with_reducible first | exact HB.out | apply below_alloc | apply pw_below_drewN | apply below_drew1) | exact HB.out)) hb); have n1_ := Aside0.mk (hbox); have n2_ := Aside0.mk ((by rw [hg]; exact (below_size (by repeat (first | (with_reducible first | exact HB.out | apply below_alloc | apply pw_below_drewN | apply below_drew1) | exact HB.out))) : w.heap.size ≤ gb211)); have n3_ := Aside0.mk ((by rw [hg]; exact (below_size (by repeat (first | (with_reducible first | exact HB.out | apply below_alloc | apply pw_below_drewN | apply below_drew1) | exact HB.out))) : w.heap.size ≤ gb211)); clear HB; have HB := n0_; have BK211 := n1_; have GW211 := n2_; have GE211 := n3_; clear n0_ n1_ n2_ n3_; clear hb hbox hg) | ((with_reducible refine gate_dst (N := 3) rfl ?_); refine box_event ?hg (N := 3) ?hd (cs := #[.int .i64 a1_0, .int .i64 a1_1, .int .i64 a1_2]) (t := 27) ?hr ?_; (case hd => rfl); (case hg => rfl); (case hr => first | (go_simp; done) | (go_simp; rfl)); intro gb212 hg w33 hbox hb; have n0_ := Aside0.mk (blk_below (g := gb211) (o := .cells #[.string a0_0, .int .i64 a0_1, .int .i64 a0_2, .int .i64 a0_3, .int .i64 a0_4, .int .i64 a0_5, .int .i64 a0_6, .int .i64 a0_7] 23 (0, 0)) (by (with_reducible repeat (first | refine blk_drewN ?_ _ | refine blk_drew ?_ | refine blk_alloc ?_ _)); exact BK211.out) hb); have n1_ := Aside0.mk (below_step (by repeat (first | (with_reducible first | exact HB.out | apply below_alloc | apply pw_below_drewN | apply below_drew1 | refine below_set ?_ GE211.out) | exact HB.out)) hb); have n2_ := Aside0.mk (hbox); have n3_ := Aside0.mk ((by rw [hg]; exact (below_size (by repeat (first | (with_reducible first | exact HB.out | apply below_alloc | apply pw_below_drewN | apply below_drew1 | refine below_set ?_ GE211.out) | exact HB.out))) : w.heap.size ≤ gb212)); have n4_ := Aside0.mk ((by rw [hg]; exact (below_size (by repeat (first | (with_reducible first | exact HB.out | apply below_alloc | apply pw_below_drewN | apply below_drew1 | refine below_set ?_ GE211.out) | exact HB.out))) : w.heap.size ≤ gb212)); have n5_ := Aside0.mk ((by rw [hg]; exact Nat.ne_of_lt (blk_lt (g := gb211) (o := .cells #[.string a0_0, .int .i64 a0_1, .int .i64 a0_2, .int .i64 a0_3, .int .i64 a0_4, .int .i64 a0_5, .int .i64 a0_6, .int .i64 a0_7] 23 (0, 0)) (by (with_reducible repeat (first | refine blk_drewN ?_ _ | refine blk_drew ?_ | refine blk_alloc ?_ _)); exact BK211.out)) : gb211 ≠ gb212)); have n6_ := Aside0.mk ((by rw [hg]; exact Nat.ne_of_gt (blk_lt (g := gb211) (o := .cells #[.string a0_0, .int .i64 a0_1, .int .i64 a0_2, .int .i64 a0_3, .int .i64 a0_4, .int .i64 a0_5, .int .i64 a0_6, .int .i64 a0_7] 23 (0, 0)) (by (with_reducible repeat (first | refine blk_drewN ?_ _ | refine blk_drew ?_ | refine blk_alloc ?_ _)); exact BK211.out)) : gb212 ≠ gb211)); clear BK211; clear HB; have BK211 := n0_; have HB := n1_; have BK212 := n2_; have GW212 := n3_; have GE212 := n4_; have NB211_212 := n5_; have NB212_211 := n6_; clear n0_ n1_ n2_ n3_ n4_ n5_ n6_; clear hb hbox hg; have hnb34 := NB212_211.out; have hnc34 := NB211_212.out; have hcz35_0 : w33.cell? ⟨gb212, 0, none⟩ = some (.int .i64 a1_0) := (blk_cell BK212.out 0).trans rfl; have hcz35_1 : w33.cell? ⟨gb212, 1, none⟩ = some (.int .i64 a1_1) := (blk_cell BK212.out 1).trans rfl; have hcz35_2 : w33.cell? ⟨gb212, 2, none⟩ = some (.int .i64 a1_2) := (blk_cell BK212.out 2).trans rfl; have hfz35_0 := blk_frozen BK212.out 0; have hfz35_1 := blk_frozen BK212.out 1; have hfz35_2 := blk_frozen BK212.out 2; have hcz36_0 : w33.cell? ⟨gb211, 0, none⟩ = some (.string a0_0) := (blk_cell BK211.out 0).trans rfl; have hcz36_1 : w33.cell? ⟨gb211, 1, none⟩ = some (.int .i64 a0_1) := (blk_cell BK211.out 1).trans rfl; have hcz36_2 : w33.cell? ⟨gb211, 2, none⟩ = some (.int .i64 a0_2) := (blk_cell BK211.out 2).trans rfl; have hcz36_3 : w33.cell? ⟨gb211, 3, none⟩ = some (.int .i64 a0_3) := (blk_cell BK211.out 3).trans rfl; have hcz36_4 : w33.cell? ⟨gb211, 4, none⟩ = some (.int .i64 a0_4) := (blk_cell BK211.out 4).trans rfl; have hcz36_5 : w33.cell? ⟨gb211, 5, none⟩ = some (.int .i64 a0_5) := (blk_cell BK211.out 5).trans rfl; have hcz36_6 : w33.cell? ⟨gb211, 6, none⟩ = some (.int .i64 a0_6) := (blk_cell BK211.out 6).trans rfl; have hcz36_7 : w33.cell? ⟨gb211, 7, none⟩ = some (.int .i64 a0_7) := (blk_cell BK211.out 7).trans rfl; have hfz36_0 := blk_frozen BK211.out 0; have hfz36_1 := blk_frozen BK211.out 1; have hfz36_2 := blk_frozen BK211.out 2; have hfz36_3 := blk_frozen BK211.out 3; have hfz36_4 := blk_frozen BK211.out 4; have hfz36_5 := blk_frozen BK211.out 5; have hfz36_6 := blk_frozen BK211.out 6; have hfz36_7 := blk_frozen BK211.out 7))
              go_ret
              exact ⟨by first | rfl | (simp [errW_none, errW_some] <;> rfl) | (simp [*, errW_none, errW_some] <;> rfl), by repeat (first | (with_reducible first | exact HB.out | apply below_alloc | apply pw_below_drewN | apply below_drew1 | refine below_set ?_ GE211.out | refine below_set ?_ GE212.out) | exact HB.out)⟩
          · rw [if_neg c25] at H
            have c25b0 : decide (a1_1 ≤ a0_4) = false := decide_eq_false c25
            clear c25
            obtain rfl := Option.some.inj H
            simp only [Option.some.injEq, Prod.mk.injEq] at H
            obtain ⟨rfl⟩ := H
            go_enter Tryd.func24, Tryd.ntmps24
            go_wp2_with (first | ((with_reducible refine gate_dst (N := 2) rfl ?_); refine box_event ?hg (N := 2) ?hd (cs := #[.string a0_0, .int .i64 a0_1, .int .i64 a0_2, .int .i64 a0_3, .int .i64 a0_4, .int .i64 a0_5, .int .i64 a0_6, .int .i64 a0_7]) (t := 23) ?hr ?_; (case hd => rfl); (case hg => rfl); (case hr => first | (go_simp; done) | (go_simp; rfl)); intro gb211 hg w37 hbox hb; have n0_ := Aside0.mk (below_step (by repeat (first | (with_reducible first | exact HB.out | apply below_alloc | apply pw_below_drewN | apply below_drew1) | exact HB.out)) hb); have n1_ := Aside0.mk (hbox); have n2_ := Aside0.mk ((by rw [hg]; exact (below_size (by repeat (first | (with_reducible first | exact HB.out | apply below_alloc | apply pw_below_drewN | apply below_drew1) | exact HB.out))) : w.heap.size ≤ gb211)); have n3_ := Aside0.mk ((by rw [hg]; exact (below_size (by repeat (first | (with_reducible first | exact HB.out | apply below_alloc | apply pw_below_drewN | apply below_drew1) | exact HB.out))) : w.heap.size ≤ gb211)); clear HB; have HB := n0_; have BK211 := n1_; have GW211 := n2_; have GE211 := n3_; clear n0_ n1_ n2_ n3_; clear hb hbox hg) | ((with_reducible refine gate_dst (N := 3) rfl ?_); refine box_event ?hg (N := 3) ?hd (cs := #[.int .i64 a1_0, .int .i64 a1_1, .int .i64 a1_2]) (t := 27) ?hr ?_; (case hd => rfl); (case hg => rfl); (case hr => first | (go_simp; done) | (go_simp; rfl)); intro gb212 hg w38 hbox hb; have n0_ := Aside0.mk (blk_below (g := gb211) (o := .cells #[.string a0_0, .int .i64 a0_1, .int .i64 a0_2, .int .i64 a0_3, .int .i64 a0_4, .int .i64 a0_5, .int .i64 a0_6, .int .i64 a0_7] 23 (0, 0)) (by (with_reducible repeat (first | refine blk_drewN ?_ _ | refine blk_drew ?_ | refine blk_alloc ?_ _)); exact BK211.out) hb); have n1_ := Aside0.mk (below_step (by repeat (first | (with_reducible first | exact HB.out | apply below_alloc | apply pw_below_drewN | apply below_drew1 | refine below_set ?_ GE211.out) | exact HB.out)) hb); have n2_ := Aside0.mk (hbox); have n3_ := Aside0.mk ((by rw [hg]; exact (below_size (by repeat (first | (with_reducible first | exact HB.out | apply below_alloc | apply pw_below_drewN | apply below_drew1 | refine below_set ?_ GE211.out) | exact HB.out))) : w.heap.size ≤ gb212)); have n4_ := Aside0.mk ((by rw [hg]; exact (below_size (by repeat (first | (with_reducible first | exact HB.out | apply below_alloc | apply pw_below_drewN | apply below_drew1 | refine below_set ?_ GE211.out) | exact HB.out))) : w.heap.size ≤ gb212)); have n5_ := Aside0.mk ((by rw [hg]; exact Nat.ne_of_lt (blk_lt (g := gb211) (o := .cells #[.string a0_0, .int .i64 a0_1, .int .i64 a0_2, .int .i64 a0_3, .int .i64 a0_4, .int .i64 a0_5, .int .i64 a0_6, .int .i64 a0_7] 23 (0, 0)) (by (with_reducible repeat (first | refine blk_drewN ?_ _ | refine blk_drew ?_ | refine blk_alloc ?_ _)); exact BK211.out)) : gb211 ≠ gb212)); have n6_ := Aside0.mk ((by rw [hg]; exact Nat.ne_of_gt (blk_lt (g := gb211) (o := .cells #[.string a0_0, .int .i64 a0_1, .int .i64 a0_2, .int .i64 a0_3, .int .i64 a0_4, .int .i64 a0_5, .int .i64 a0_6, .int .i64 a0_7] 23 (0, 0)) (by (with_reducible repeat (first | refine blk_drewN ?_ _ | refine blk_drew ?_ | refine blk_alloc ?_ _)); exact BK211.out)) : gb212 ≠ gb211)); clear BK211; clear HB; have BK211 := n0_; have HB := n1_; have BK212 := n2_; have GW212 := n3_; have GE212 := n4_; have NB211_212 := n5_; have NB212_211 := n6_; clear n0_ n1_ n2_ n3_ n4_ n5_ n6_; clear hb hbox hg; have hnb39 := NB212_211.out; have hnc39 := NB211_212.out; have hcz40_0 : w38.cell? ⟨gb212, 0, none⟩ = some (.int .i64 a1_0) := (blk_cell BK212.out 0).trans rfl; have hcz40_1 : w38.cell? ⟨gb212, 1, none⟩ = some (.int .i64 a1_1) := (blk_cell BK212.out 1).trans rfl; have hcz40_2 : w38.cell? ⟨gb212, 2, none⟩ = some (.int .i64 a1_2) := (blk_cell BK212.out 2).trans rfl; have hfz40_0 := blk_frozen BK212.out 0; have hfz40_1 := blk_frozen BK212.out 1; have hfz40_2 := blk_frozen BK212.out 2; have hcz41_0 : w38.cell? ⟨gb211, 0, none⟩ = some (.string a0_0) := (blk_cell BK211.out 0).trans rfl; have hcz41_1 : w38.cell? ⟨gb211, 1, none⟩ = some (.int .i64 a0_1) := (blk_cell BK211.out 1).trans rfl; have hcz41_2 : w38.cell? ⟨gb211, 2, none⟩ = some (.int .i64 a0_2) := (blk_cell BK211.out 2).trans rfl; have hcz41_3 : w38.cell? ⟨gb211, 3, none⟩ = some (.int .i64 a0_3) := (blk_cell BK211.out 3).trans rfl; have hcz41_4 : w38.cell? ⟨gb211, 4, none⟩ = some (.int .i64 a0_4) := (blk_cell BK211.out 4).trans rfl; have hcz41_5 : w38.cell? ⟨gb211, 5, none⟩ = some (.int .i64 a0_5) := (blk_cell BK211.out 5).trans rfl; have hcz41_6 : w38.cell? ⟨gb211, 6, none⟩ = some (.int .i64 a0_6) := (blk_cell BK211.out 6).trans rfl; have hcz41_7 : w38.cell? ⟨gb211, 7, none⟩ = some (.int .i64 a0_7) := (blk_cell BK211.out 7).trans rfl; have hfz41_0 := blk_frozen BK211.out 0; have hfz41_1 := blk_frozen BK211.out 1; have hfz41_2 := blk_frozen BK211.out 2; have hfz41_3 := blk_frozen BK211.out 3; have hfz41_4 := blk_frozen BK211.out 4; have hfz41_5 := blk_frozen BK211.out 5; have hfz41_6 := blk_frozen BK211.out 6; have hfz41_7 := blk_frozen BK211.out 7))
            go_ret
            exact ⟨by first | rfl | (simp [errW_none, errW_some] <;> rfl) | (simp [*, errW_none, errW_some] <;> rfl), by repeat (first | (with_reducible first | exact HB.out | apply below_alloc | apply pw_below_drewN | apply below_drew1 | refine below_set ?_ GE211.out | refine below_set ?_ GE212.out) | exact HB.out)⟩
        · rw [if_neg c24] at H
          have c24b0 : decide (0 ≤ a1_1) = false := decide_eq_false c24
          clear c24
          obtain rfl := Option.some.inj H
          simp only [Option.some.injEq, Prod.mk.injEq] at H
          obtain ⟨rfl⟩ := H
          go_enter Tryd.func24, Tryd.ntmps24
          go_wp2_with (first | ((with_reducible refine gate_dst (N := 2) rfl ?_); refine box_event ?hg (N := 2) ?hd (cs := #[.string a0_0, .int .i64 a0_1, .int .i64 a0_2, .int .i64 a0_3, .int .i64 a0_4, .int .i64 a0_5, .int .i64 a0_6, .int .i64 a0_7]) (t := 23) ?hr ?_; (case hd => rfl); (case hg => rfl); (case hr => first | (go_simp; done) | (go_simp; rfl)); intro gb211 hg w42 hbox hb; have n0_ := Aside0.mk (below_step (by repeat (first | (with_reducible first | exact HB.out | apply below_alloc | apply pw_below_drewN | apply below_drew1) | exact HB.out)) hb); have n1_ := Aside0.mk (hbox); have n2_ := Aside0.mk ((by rw [hg]; exact (below_size (by repeat (first | (with_reducible first | exact HB.out | apply below_alloc | apply pw_below_drewN | apply below_drew1) | exact HB.out))) : w.heap.size ≤ gb211)); have n3_ := Aside0.mk ((by rw [hg]; exact (below_size (by repeat (first | (with_reducible first | exact HB.out | apply below_alloc | apply pw_below_drewN | apply below_drew1) | exact HB.out))) : w.heap.size ≤ gb211)); clear HB; have HB := n0_; have BK211 := n1_; have GW211 := n2_; have GE211 := n3_; clear n0_ n1_ n2_ n3_; clear hb hbox hg) | ((with_reducible refine gate_dst (N := 3) rfl ?_); refine box_event ?hg (N := 3) ?hd (cs := #[.int .i64 a1_0, .int .i64 a1_1, .int .i64 a1_2]) (t := 27) ?hr ?_; (case hd => rfl); (case hg => rfl); (case hr => first | (go_simp; done) | (go_simp; rfl)); intro gb212 hg w43 hbox hb; have n0_ := Aside0.mk (blk_below (g := gb211) (o := .cells #[.string a0_0, .int .i64 a0_1, .int .i64 a0_2, .int .i64 a0_3, .int .i64 a0_4, .int .i64 a0_5, .int .i64 a0_6, .int .i64 a0_7] 23 (0, 0)) (by (with_reducible repeat (first | refine blk_drewN ?_ _ | refine blk_drew ?_ | refine blk_alloc ?_ _)); exact BK211.out) hb); have n1_ := Aside0.mk (below_step (by repeat (first | (with_reducible first | exact HB.out | apply below_alloc | apply pw_below_drewN | apply below_drew1 | refine below_set ?_ GE211.out) | exact HB.out)) hb); have n2_ := Aside0.mk (hbox); have n3_ := Aside0.mk ((by rw [hg]; exact (below_size (by repeat (first | (with_reducible first | exact HB.out | apply below_alloc | apply pw_below_drewN | apply below_drew1 | refine below_set ?_ GE211.out) | exact HB.out))) : w.heap.size ≤ gb212)); have n4_ := Aside0.mk ((by rw [hg]; exact (below_size (by repeat (first | (with_reducible first | exact HB.out | apply below_alloc | apply pw_below_drewN | apply below_drew1 | refine below_set ?_ GE211.out) | exact HB.out))) : w.heap.size ≤ gb212)); have n5_ := Aside0.mk ((by rw [hg]; exact Nat.ne_of_lt (blk_lt (g := gb211) (o := .cells #[.string a0_0, .int .i64 a0_1, .int .i64 a0_2, .int .i64 a0_3, .int .i64 a0_4, .int .i64 a0_5, .int .i64 a0_6, .int .i64 a0_7] 23 (0, 0)) (by (with_reducible repeat (first | refine blk_drewN ?_ _ | refine blk_drew ?_ | refine blk_alloc ?_ _)); exact BK211.out)) : gb211 ≠ gb212)); have n6_ := Aside0.mk ((by rw [hg]; exact Nat.ne_of_gt (blk_lt (g := gb211) (o := .cells #[.string a0_0, .int .i64 a0_1, .int .i64 a0_2, .int .i64 a0_3, .int .i64 a0_4, .int .i64 a0_5, .int .i64 a0_6, .int .i64 a0_7] 23 (0, 0)) (by (with_reducible repeat (first | refine blk_drewN ?_ _ | refine blk_drew ?_ | refine blk_alloc ?_ _)); exact BK211.out)) : gb212 ≠ gb211)); clear BK211; clear HB; have BK211 := n0_; have HB := n1_; have BK212 := n2_; have GW212 := n3_; have GE212 := n4_; have NB211_212 := n5_; have NB212_211 := n6_; clear n0_ n1_ n2_ n3_ n4_ n5_ n6_; clear hb hbox hg; have hnb44 := NB212_211.out; have hnc44 := NB211_212.out; have hcz45_0 : w43.cell? ⟨gb212, 0, none⟩ = some (.int .i64 a1_0) := (blk_cell BK212.out 0).trans rfl; have hcz45_1 : w43.cell? ⟨gb212, 1, none⟩ = some (.int .i64 a1_1) := (blk_cell BK212.out 1).trans rfl; have hcz45_2 : w43.cell? ⟨gb212, 2, none⟩ = some (.int .i64 a1_2) := (blk_cell BK212.out 2).trans rfl; have hfz45_0 := blk_frozen BK212.out 0; have hfz45_1 := blk_frozen BK212.out 1; have hfz45_2 := blk_frozen BK212.out 2))
          go_ret
          exact ⟨by first | rfl | (simp [errW_none, errW_some] <;> rfl) | (simp [*, errW_none, errW_some] <;> rfl), by repeat (first | (with_reducible first | exact HB.out | apply below_alloc | apply pw_below_drewN | apply below_drew1 | refine below_set ?_ GE211.out | refine below_set ?_ GE212.out) | exact HB.out)⟩
      · rw [if_neg c23] at H
        have c23b0 : (a1_0 == 7) = false := beq_eq_false_iff_ne.mpr c23
        have c23b1 : (a1_0 != 7) = true := bne_iff_ne.mpr c23
        obtain rfl := Option.some.inj H
        simp only [Option.some.injEq, Prod.mk.injEq] at H
        obtain ⟨rfl⟩ := H
        go_enter Tryd.func24, Tryd.ntmps24
        go_wp2_with (first | ((with_reducible refine gate_dst (N := 2) rfl ?_); refine box_event ?hg (N := 2) ?hd (cs := #[.string a0_0, .int .i64 a0_1, .int .i64 a0_2, .int .i64 a0_3, .int .i64 a0_4, .int .i64 a0_5, .int .i64 a0_6, .int .i64 a0_7]) (t := 23) ?hr ?_; (case hd => rfl); (case hg => rfl); (case hr => first | (go_simp; done) | (go_simp; rfl)); intro gb211 hg w46 hbox hb; have n0_ := Aside0.mk (below_step (by repeat (first | (with_reducible first | exact HB.out | apply below_alloc | apply pw_below_drewN | apply below_drew1) | exact HB.out)) hb); have n1_ := Aside0.mk (hbox); have n2_ := Aside0.mk ((by rw [hg]; exact (below_size (by repeat (first | (with_reducible first | exact HB.out | apply below_alloc | apply pw_below_drewN | apply below_drew1) | exact HB.out))) : w.heap.size ≤ gb211)); have n3_ := Aside0.mk ((by rw [hg]; exact (below_size (by repeat (first | (with_reducible first | exact HB.out | apply below_alloc | apply pw_below_drewN | apply below_drew1) | exact HB.out))) : w.heap.size ≤ gb211)); clear HB; have HB := n0_; have BK211 := n1_; have GW211 := n2_; have GE211 := n3_; clear n0_ n1_ n2_ n3_; clear hb hbox hg) | ((with_reducible refine gate_dst (N := 3) rfl ?_); refine box_event ?hg (N := 3) ?hd (cs := #[.int .i64 a1_0, .int .i64 a1_1, .int .i64 a1_2]) (t := 27) ?hr ?_; (case hd => rfl); (case hg => rfl); (case hr => first | (go_simp; done) | (go_simp; rfl)); intro gb212 hg w47 hbox hb; have n0_ := Aside0.mk (blk_below (g := gb211) (o := .cells #[.string a0_0, .int .i64 a0_1, .int .i64 a0_2, .int .i64 a0_3, .int .i64 a0_4, .int .i64 a0_5, .int .i64 a0_6, .int .i64 a0_7] 23 (0, 0)) (by (with_reducible repeat (first | refine blk_drewN ?_ _ | refine blk_drew ?_ | refine blk_alloc ?_ _)); exact BK211.out) hb); have n1_ := Aside0.mk (below_step (by repeat (first | (with_reducible first | exact HB.out | apply below_alloc | apply pw_below_drewN | apply below_drew1 | refine below_set ?_ GE211.out) | exact HB.out)) hb); have n2_ := Aside0.mk (hbox); have n3_ := Aside0.mk ((by rw [hg]; exact (below_size (by repeat (first | (with_reducible first | exact HB.out | apply below_alloc | apply pw_below_drewN | apply below_drew1 | refine below_set ?_ GE211.out) | exact HB.out))) : w.heap.size ≤ gb212)); have n4_ := Aside0.mk ((by rw [hg]; exact (below_size (by repeat (first | (with_reducible first | exact HB.out | apply below_alloc | apply pw_below_drewN | apply below_drew1 | refine below_set ?_ GE211.out) | exact HB.out))) : w.heap.size ≤ gb212)); have n5_ := Aside0.mk ((by rw [hg]; exact Nat.ne_of_lt (blk_lt (g := gb211) (o := .cells #[.string a0_0, .int .i64 a0_1, .int .i64 a0_2, .int .i64 a0_3, .int .i64 a0_4, .int .i64 a0_5, .int .i64 a0_6, .int .i64 a0_7] 23 (0, 0)) (by (with_reducible repeat (first | refine blk_drewN ?_ _ | refine blk_drew ?_ | refine blk_alloc ?_ _)); exact BK211.out)) : gb211 ≠ gb212)); have n6_ := Aside0.mk ((by rw [hg]; exact Nat.ne_of_gt (blk_lt (g := gb211) (o := .cells #[.string a0_0, .int .i64 a0_1, .int .i64 a0_2, .int .i64 a0_3, .int .i64 a0_4, .int .i64 a0_5, .int .i64 a0_6, .int .i64 a0_7] 23 (0, 0)) (by (with_reducible repeat (first | refine blk_drewN ?_ _ | refine blk_drew ?_ | refine blk_alloc ?_ _)); exact BK211.out)) : gb212 ≠ gb211)); clear BK211; clear HB; have BK211 := n0_; have HB := n1_; have BK212 := n2_; have GW212 := n3_; have GE212 := n4_; have NB211_212 := n5_; have NB212_211 := n6_; clear n0_ n1_ n2_ n3_ n4_ n5_ n6_; clear hb hbox hg; have hnb48 := NB212_211.out; have hnc48 := NB211_212.out; have hcz49_0 : w47.cell? ⟨gb212, 0, none⟩ = some (.int .i64 a1_0) := (blk_cell BK212.out 0).trans rfl; have hcz49_1 : w47.cell? ⟨gb212, 1, none⟩ = some (.int .i64 a1_1) := (blk_cell BK212.out 1).trans rfl; have hcz49_2 : w47.cell? ⟨gb212, 2, none⟩ = some (.int .i64 a1_2) := (blk_cell BK212.out 2).trans rfl; have hfz49_0 := blk_frozen BK212.out 0; have hfz49_1 := blk_frozen BK212.out 1; have hfz49_2 := blk_frozen BK212.out 2))
        go_ret
        exact ⟨by first | rfl | (simp [errW_none, errW_some] <;> rfl) | (simp [*, errW_none, errW_some] <;> rfl), by repeat (first | (with_reducible first | exact HB.out | apply below_alloc | apply pw_below_drewN | apply below_drew1 | refine below_set ?_ GE211.out | refine below_set ?_ GE212.out) | exact HB.out)⟩

end Go.Proofs.YtnfanhnflcjphaaDoor.PAll
