/- What the Go functions of this seat's laws return, told as Lean functions and proved by their walks; laid by a program of this session out of Lean's own print of the translation. No conditions of its own. -/
import Derived.Test.YtagphncpdhaklaaDoorPAllx0
import Derived.Test.YtagphncpdhaklaaDoorPAllx3
import Derived.Test.YtagphncpdhaklaaDoorPAllx4
import Derived.Test.YtagphncpdhaklaaDoorPAllx5
namespace Go.Proofs.YtagphncpdhaklaaDoor.PAll
open Go.RowKit Go.Proofs.YtagphncpdhaklaaDoorW.PrintWords Go.Proofs.YtagphncpdhaklaaDoorW.PrintLast Go.Proofs.YtagphncpdhaklaaDoorW.PrintMore
attribute [local go_sem] max2_int min2_int max_two min_two max_three min_three max_four min_four   -- for this text's walks alone
set_option linter.unusedVariables false
set_option linter.unusedSimpArgs false

/-! ### chargeparklaw24_head: function 9 -/
def chargeparklaw24_head.f  : Option (Bool) := (chargeparklaw24_example.f).bind fun _ => ((ramp_Next.f (⟨#[]⟩ : ByteArray) 0 7 6 16 4 0 0 7 0 16).bind fun _ => ((chargeparklaw24_example.f).bind fun _ => ((ramp_Next.f (⟨#[]⟩ : ByteArray) 0 7 6 16 4 0 0 0 0 81).bind fun _ => ((chargeparklaw24_example.f).bind fun _ => ((ramp_Valid.f (⟨#[]⟩ : ByteArray) 0 7 6 16 4 0 0 14 0).bind fun _ => ((chargeparklaw24_example.f).bind fun _ => ((ramp_Valid.f (⟨#[]⟩ : ByteArray) 0 7 6 16 4 0 0 18 0).bind fun _ => ((chargeparklaw24_gives.f 0 5 16 6 0).bind fun _ => ((chargeparklaw24_gives.f 6 0 16 10 1).bind fun _ => ((chargeparklaw24_gives.f 10 1 9 6 2).bind fun _ => ((chargeparklaw24_gives.f 6 2 5 0 0).bind fun _ => ((chargeparklaw24_gives.f 0 0 16 0 1).bind fun _ => ((chargeparklaw24_gives.f 0 4 16 0 5).bind fun _ => (some true))))))))))))))
set_option maxHeartbeats 8000000 in
set_option maxRecDepth 100000 in
theorem chargeparklaw24_head.calls  (r : Bool) (w : World) (hG : Hand.G w) (h : chargeparklaw24_head.f  = some r) (hr : Aside0 (r = true)) :
    Calls Tryd.prog 9 #[] w fun e w' => e = .returned (.bool r) ∧ Below w.heap.size w w' := by
  have hu25 := Tryd.underlying25
  have HB := Aside0.mk (Below.refl w.heap.size w)
  have H : ((chargeparklaw24_example.f).bind fun _ => ((ramp_Next.f (⟨#[]⟩ : ByteArray) 0 7 6 16 4 0 0 7 0 16).bind fun _ => ((chargeparklaw24_example.f).bind fun _ => ((ramp_Next.f (⟨#[]⟩ : ByteArray) 0 7 6 16 4 0 0 0 0 81).bind fun _ => ((chargeparklaw24_example.f).bind fun _ => ((ramp_Valid.f (⟨#[]⟩ : ByteArray) 0 7 6 16 4 0 0 14 0).bind fun _ => ((chargeparklaw24_example.f).bind fun _ => ((ramp_Valid.f (⟨#[]⟩ : ByteArray) 0 7 6 16 4 0 0 18 0).bind fun _ => ((chargeparklaw24_gives.f 0 5 16 6 0).bind fun _ => ((chargeparklaw24_gives.f 6 0 16 10 1).bind fun _ => ((chargeparklaw24_gives.f 10 1 9 6 2).bind fun _ => ((chargeparklaw24_gives.f 6 2 5 0 0).bind fun _ => ((chargeparklaw24_gives.f 0 0 16 0 1).bind fun _ => ((chargeparklaw24_gives.f 0 4 16 0 5).bind fun _ => (some true))))))))))))))) = some r := h
  clear h
  replace H := Option.bind_eq_some_iff.mp H
  obtain ⟨tc_, A10, H⟩ := H
  obtain rfl : ((⟨#[]⟩ : ByteArray), 0, 7, 6, 16, 4, 0, 0) = tc_ := Option.some.inj ((show chargeparklaw24_example.f = some ((⟨#[]⟩ : ByteArray), 0, 7, 6, 16, 4, 0, 0) by kernel_rfl).symm.trans A10)
  replace H : ((ramp_Next.f (⟨#[]⟩ : ByteArray) 0 7 6 16 4 0 0 7 0 16).bind fun _ => ((chargeparklaw24_example.f).bind fun _ => ((ramp_Next.f (⟨#[]⟩ : ByteArray) 0 7 6 16 4 0 0 0 0 81).bind fun _ => ((chargeparklaw24_example.f).bind fun _ => ((ramp_Valid.f (⟨#[]⟩ : ByteArray) 0 7 6 16 4 0 0 14 0).bind fun _ => ((chargeparklaw24_example.f).bind fun _ => ((ramp_Valid.f (⟨#[]⟩ : ByteArray) 0 7 6 16 4 0 0 18 0).bind fun _ => ((chargeparklaw24_gives.f 0 5 16 6 0).bind fun _ => ((chargeparklaw24_gives.f 6 0 16 10 1).bind fun _ => ((chargeparklaw24_gives.f 10 1 9 6 2).bind fun _ => ((chargeparklaw24_gives.f 6 2 5 0 0).bind fun _ => ((chargeparklaw24_gives.f 0 0 16 0 1).bind fun _ => ((chargeparklaw24_gives.f 0 4 16 0 5).bind fun _ => (some true)))))))))))))) = some r := H
  have A1 := Aside0.mk A10
  clear A10
  replace H := Option.bind_eq_some_iff.mp H
  obtain ⟨tc_, A20, H⟩ := H
  obtain rfl : (0, 0, 1) = tc_ := Option.some.inj ((show ramp_Next.f (⟨#[]⟩ : ByteArray) 0 7 6 16 4 0 0 7 0 16 = some (0, 0, 1) by kernel_rfl).symm.trans A20)
  replace H : ((chargeparklaw24_example.f).bind fun _ => ((ramp_Next.f (⟨#[]⟩ : ByteArray) 0 7 6 16 4 0 0 0 0 81).bind fun _ => ((chargeparklaw24_example.f).bind fun _ => ((ramp_Valid.f (⟨#[]⟩ : ByteArray) 0 7 6 16 4 0 0 14 0).bind fun _ => ((chargeparklaw24_example.f).bind fun _ => ((ramp_Valid.f (⟨#[]⟩ : ByteArray) 0 7 6 16 4 0 0 18 0).bind fun _ => ((chargeparklaw24_gives.f 0 5 16 6 0).bind fun _ => ((chargeparklaw24_gives.f 6 0 16 10 1).bind fun _ => ((chargeparklaw24_gives.f 10 1 9 6 2).bind fun _ => ((chargeparklaw24_gives.f 6 2 5 0 0).bind fun _ => ((chargeparklaw24_gives.f 0 0 16 0 1).bind fun _ => ((chargeparklaw24_gives.f 0 4 16 0 5).bind fun _ => (some true))))))))))))) = some r := H
  have A2 := Aside0.mk A20
  clear A20
  replace H := Option.bind_eq_some_iff.mp H
  obtain ⟨tc_, A30, H⟩ := H
  obtain rfl : ((⟨#[]⟩ : ByteArray), 0, 7, 6, 16, 4, 0, 0) = tc_ := Option.some.inj ((show chargeparklaw24_example.f = some ((⟨#[]⟩ : ByteArray), 0, 7, 6, 16, 4, 0, 0) by kernel_rfl).symm.trans A30)
  replace H : ((ramp_Next.f (⟨#[]⟩ : ByteArray) 0 7 6 16 4 0 0 0 0 81).bind fun _ => ((chargeparklaw24_example.f).bind fun _ => ((ramp_Valid.f (⟨#[]⟩ : ByteArray) 0 7 6 16 4 0 0 14 0).bind fun _ => ((chargeparklaw24_example.f).bind fun _ => ((ramp_Valid.f (⟨#[]⟩ : ByteArray) 0 7 6 16 4 0 0 18 0).bind fun _ => ((chargeparklaw24_gives.f 0 5 16 6 0).bind fun _ => ((chargeparklaw24_gives.f 6 0 16 10 1).bind fun _ => ((chargeparklaw24_gives.f 10 1 9 6 2).bind fun _ => ((chargeparklaw24_gives.f 6 2 5 0 0).bind fun _ => ((chargeparklaw24_gives.f 0 0 16 0 1).bind fun _ => ((chargeparklaw24_gives.f 0 4 16 0 5).bind fun _ => (some true)))))))))))) = some r := H
  have A3 := Aside0.mk A30
  clear A30
  replace H := Option.bind_eq_some_iff.mp H
  obtain ⟨tc_, A40, H⟩ := H
  obtain rfl : (0, 0, 1) = tc_ := Option.some.inj ((show ramp_Next.f (⟨#[]⟩ : ByteArray) 0 7 6 16 4 0 0 0 0 81 = some (0, 0, 1) by kernel_rfl).symm.trans A40)
  replace H : ((chargeparklaw24_example.f).bind fun _ => ((ramp_Valid.f (⟨#[]⟩ : ByteArray) 0 7 6 16 4 0 0 14 0).bind fun _ => ((chargeparklaw24_example.f).bind fun _ => ((ramp_Valid.f (⟨#[]⟩ : ByteArray) 0 7 6 16 4 0 0 18 0).bind fun _ => ((chargeparklaw24_gives.f 0 5 16 6 0).bind fun _ => ((chargeparklaw24_gives.f 6 0 16 10 1).bind fun _ => ((chargeparklaw24_gives.f 10 1 9 6 2).bind fun _ => ((chargeparklaw24_gives.f 6 2 5 0 0).bind fun _ => ((chargeparklaw24_gives.f 0 0 16 0 1).bind fun _ => ((chargeparklaw24_gives.f 0 4 16 0 5).bind fun _ => (some true))))))))))) = some r := H
  have A4 := Aside0.mk A40
  clear A40
  replace H := Option.bind_eq_some_iff.mp H
  obtain ⟨tc_, A50, H⟩ := H
  obtain rfl : ((⟨#[]⟩ : ByteArray), 0, 7, 6, 16, 4, 0, 0) = tc_ := Option.some.inj ((show chargeparklaw24_example.f = some ((⟨#[]⟩ : ByteArray), 0, 7, 6, 16, 4, 0, 0) by kernel_rfl).symm.trans A50)
  replace H : ((ramp_Valid.f (⟨#[]⟩ : ByteArray) 0 7 6 16 4 0 0 14 0).bind fun _ => ((chargeparklaw24_example.f).bind fun _ => ((ramp_Valid.f (⟨#[]⟩ : ByteArray) 0 7 6 16 4 0 0 18 0).bind fun _ => ((chargeparklaw24_gives.f 0 5 16 6 0).bind fun _ => ((chargeparklaw24_gives.f 6 0 16 10 1).bind fun _ => ((chargeparklaw24_gives.f 10 1 9 6 2).bind fun _ => ((chargeparklaw24_gives.f 6 2 5 0 0).bind fun _ => ((chargeparklaw24_gives.f 0 0 16 0 1).bind fun _ => ((chargeparklaw24_gives.f 0 4 16 0 5).bind fun _ => (some true)))))))))) = some r := H
  have A5 := Aside0.mk A50
  clear A50
  replace H := Option.bind_eq_some_iff.mp H
  obtain ⟨tc_, A60, H⟩ := H
  obtain rfl : true = tc_ := Option.some.inj ((show ramp_Valid.f (⟨#[]⟩ : ByteArray) 0 7 6 16 4 0 0 14 0 = some true by kernel_rfl).symm.trans A60)
  replace H : ((chargeparklaw24_example.f).bind fun _ => ((ramp_Valid.f (⟨#[]⟩ : ByteArray) 0 7 6 16 4 0 0 18 0).bind fun _ => ((chargeparklaw24_gives.f 0 5 16 6 0).bind fun _ => ((chargeparklaw24_gives.f 6 0 16 10 1).bind fun _ => ((chargeparklaw24_gives.f 10 1 9 6 2).bind fun _ => ((chargeparklaw24_gives.f 6 2 5 0 0).bind fun _ => ((chargeparklaw24_gives.f 0 0 16 0 1).bind fun _ => ((chargeparklaw24_gives.f 0 4 16 0 5).bind fun _ => (some true))))))))) = some r := H
  have A6 := Aside0.mk A60
  clear A60
  replace H := Option.bind_eq_some_iff.mp H
  obtain ⟨tc_, A70, H⟩ := H
  obtain rfl : ((⟨#[]⟩ : ByteArray), 0, 7, 6, 16, 4, 0, 0) = tc_ := Option.some.inj ((show chargeparklaw24_example.f = some ((⟨#[]⟩ : ByteArray), 0, 7, 6, 16, 4, 0, 0) by kernel_rfl).symm.trans A70)
  replace H : ((ramp_Valid.f (⟨#[]⟩ : ByteArray) 0 7 6 16 4 0 0 18 0).bind fun _ => ((chargeparklaw24_gives.f 0 5 16 6 0).bind fun _ => ((chargeparklaw24_gives.f 6 0 16 10 1).bind fun _ => ((chargeparklaw24_gives.f 10 1 9 6 2).bind fun _ => ((chargeparklaw24_gives.f 6 2 5 0 0).bind fun _ => ((chargeparklaw24_gives.f 0 0 16 0 1).bind fun _ => ((chargeparklaw24_gives.f 0 4 16 0 5).bind fun _ => (some true)))))))) = some r := H
  have A7 := Aside0.mk A70
  clear A70
  replace H := Option.bind_eq_some_iff.mp H
  obtain ⟨tc_, A80, H⟩ := H
  obtain rfl : false = tc_ := Option.some.inj ((show ramp_Valid.f (⟨#[]⟩ : ByteArray) 0 7 6 16 4 0 0 18 0 = some false by kernel_rfl).symm.trans A80)
  replace H : ((chargeparklaw24_gives.f 0 5 16 6 0).bind fun _ => ((chargeparklaw24_gives.f 6 0 16 10 1).bind fun _ => ((chargeparklaw24_gives.f 10 1 9 6 2).bind fun _ => ((chargeparklaw24_gives.f 6 2 5 0 0).bind fun _ => ((chargeparklaw24_gives.f 0 0 16 0 1).bind fun _ => ((chargeparklaw24_gives.f 0 4 16 0 5).bind fun _ => (some true))))))) = some r := H
  have A8 := Aside0.mk A80
  clear A80
  replace H := Option.bind_eq_some_iff.mp H
  obtain ⟨tc_, A90, H⟩ := H
  obtain rfl : true = tc_ := Option.some.inj ((show chargeparklaw24_gives.f 0 5 16 6 0 = some true by kernel_rfl).symm.trans A90)
  replace H : ((chargeparklaw24_gives.f 6 0 16 10 1).bind fun _ => ((chargeparklaw24_gives.f 10 1 9 6 2).bind fun _ => ((chargeparklaw24_gives.f 6 2 5 0 0).bind fun _ => ((chargeparklaw24_gives.f 0 0 16 0 1).bind fun _ => ((chargeparklaw24_gives.f 0 4 16 0 5).bind fun _ => (some true)))))) = some r := H
  have A9 := Aside0.mk A90
  clear A90
  replace H := Option.bind_eq_some_iff.mp H
  obtain ⟨tc_, A100, H⟩ := H
  obtain rfl : true = tc_ := Option.some.inj ((show chargeparklaw24_gives.f 6 0 16 10 1 = some true by kernel_rfl).symm.trans A100)
  replace H : ((chargeparklaw24_gives.f 10 1 9 6 2).bind fun _ => ((chargeparklaw24_gives.f 6 2 5 0 0).bind fun _ => ((chargeparklaw24_gives.f 0 0 16 0 1).bind fun _ => ((chargeparklaw24_gives.f 0 4 16 0 5).bind fun _ => (some true))))) = some r := H
  have A10 := Aside0.mk A100
  clear A100
  replace H := Option.bind_eq_some_iff.mp H
  obtain ⟨tc_, A110, H⟩ := H
  obtain rfl : true = tc_ := Option.some.inj ((show chargeparklaw24_gives.f 10 1 9 6 2 = some true by kernel_rfl).symm.trans A110)
  replace H : ((chargeparklaw24_gives.f 6 2 5 0 0).bind fun _ => ((chargeparklaw24_gives.f 0 0 16 0 1).bind fun _ => ((chargeparklaw24_gives.f 0 4 16 0 5).bind fun _ => (some true)))) = some r := H
  have A11 := Aside0.mk A110
  clear A110
  replace H := Option.bind_eq_some_iff.mp H
  obtain ⟨tc_, A120, H⟩ := H
  obtain rfl : true = tc_ := Option.some.inj ((show chargeparklaw24_gives.f 6 2 5 0 0 = some true by kernel_rfl).symm.trans A120)
  replace H : ((chargeparklaw24_gives.f 0 0 16 0 1).bind fun _ => ((chargeparklaw24_gives.f 0 4 16 0 5).bind fun _ => (some true))) = some r := H
  have A12 := Aside0.mk A120
  clear A120
  replace H := Option.bind_eq_some_iff.mp H
  obtain ⟨tc_, A130, H⟩ := H
  obtain rfl : true = tc_ := Option.some.inj ((show chargeparklaw24_gives.f 0 0 16 0 1 = some true by kernel_rfl).symm.trans A130)
  replace H : ((chargeparklaw24_gives.f 0 4 16 0 5).bind fun _ => (some true)) = some r := H
  have A13 := Aside0.mk A130
  clear A130
  replace H := Option.bind_eq_some_iff.mp H
  obtain ⟨tc_, A140, H⟩ := H
  obtain rfl : true = tc_ := Option.some.inj ((show chargeparklaw24_gives.f 0 4 16 0 5 = some true by kernel_rfl).symm.trans A140)
  replace H : (some true) = some r := H
  have A14 := Aside0.mk A140
  clear A140
  obtain rfl := Option.some.inj H
  simp only [Option.some.injEq, Prod.mk.injEq] at H
  obtain ⟨rfl⟩ := H
  go_enter Tryd.func9, Tryd.ntmps9
  go_wp2_with (first | ((with_reducible refine gate_callee (f := 16) rfl ?_); refine goesL_ (some 7) rfl rfl Tryd.func16 (by kernel_rfl) rfl #[] rfl (by (try simp only [List.map_toArray, List.map_cons, List.map_nil]); first | done | rfl | (simp only [List.length_drop, List.length_take]; rfl)) ?_; (with_reducible refine (chargeparklaw24_example.calls  (⟨#[]⟩ : ByteArray) 0 7 6 16 4 0 0 _ A1.out).mono ?_); rintro e w15 ⟨rfl, hb⟩; refine ⟨_, rfl, ?_⟩; have n0_ := Aside0.mk (below_step (by repeat (first | (with_reducible first | exact HB.out | apply below_alloc | apply pw_below_drewN | apply below_drew1) | exact HB.out)) hb); clear HB; have HB := n0_; clear n0_; (try clear hb); (try clear hb2); (try clear hk); (try clear hi)) | ((with_reducible refine gate_callee (f := 10) rfl ?_); refine goesL_ (some 9) rfl rfl Tryd.func10 (by kernel_rfl) rfl #[.agg #[.string (⟨#[]⟩ : ByteArray), .int .i64 0, .int .i64 7, .int .i64 6, .int .i64 16, .int .i64 4, .int .i64 0, .int .i64 0], .agg #[.int .i64 7, .int .i64 0], .int .i64 16] rfl (by (try simp only [List.map_toArray, List.map_cons, List.map_nil]); first | done | rfl | (simp only [List.length_drop, List.length_take]; rfl)) ?_; (with_reducible refine (ramp_Next.calls (⟨#[]⟩ : ByteArray) 0 7 6 16 4 0 0 7 0 16 0 0 1 _ (hG.below (by repeat (first | (with_reducible first | exact HB.out | apply below_alloc | apply pw_below_drewN | apply below_drew1) | exact HB.out))) A2.out).mono ?_); rintro e w16 ⟨rfl, hb⟩; refine ⟨_, rfl, ?_⟩; have n0_ := Aside0.mk (below_step (by repeat (first | (with_reducible first | exact HB.out | apply below_alloc | apply pw_below_drewN | apply below_drew1) | exact HB.out)) hb); clear HB; have HB := n0_; clear n0_; (try clear hb); (try clear hb2); (try clear hk); (try clear hi)) | ((with_reducible refine gate_dst (N := 1) rfl ?_); refine box_event ?hg (N := 1) ?hd (cs := #[.int .i64 0, .int .i64 0]) (t := 25) ?hr ?_; (case hd => rfl); (case hg => rfl); (case hr => first | (go_simp; done) | (go_simp; rfl)); intro gb149 hg w17 hbox hb; have n0_ := Aside0.mk (below_step (by repeat (first | (with_reducible first | exact HB.out | apply below_alloc | apply pw_below_drewN | apply below_drew1) | exact HB.out)) hb); have n1_ := Aside0.mk (hbox); have n2_ := Aside0.mk ((by rw [hg]; exact (below_size (by repeat (first | (with_reducible first | exact HB.out | apply below_alloc | apply pw_below_drewN | apply below_drew1) | exact HB.out))) : w.heap.size ≤ gb149)); have n3_ := Aside0.mk ((by rw [hg]; exact (below_size (by repeat (first | (with_reducible first | exact HB.out | apply below_alloc | apply pw_below_drewN | apply below_drew1) | exact HB.out))) : w.heap.size ≤ gb149)); clear HB; have HB := n0_; have BK149 := n1_; have GW149 := n2_; have GE149 := n3_; clear n0_ n1_ n2_ n3_; clear hb hbox hg; have hcz18_0 : w17.cell? ⟨gb149, 0, none⟩ = some (.int .i64 0) := (blk_cell BK149.out 0).trans rfl; have hcz18_1 : w17.cell? ⟨gb149, 1, none⟩ = some (.int .i64 0) := (blk_cell BK149.out 1).trans rfl; have hfz18_0 := blk_frozen BK149.out 0; have hfz18_1 := blk_frozen BK149.out 1) | ((with_reducible refine gate_callee (f := 16) rfl ?_); refine goesL_ (some 13) rfl rfl Tryd.func16 (by kernel_rfl) rfl #[] rfl (by (try simp only [List.map_toArray, List.map_cons, List.map_nil]); first | done | rfl | (simp only [List.length_drop, List.length_take]; rfl)) ?_; (with_reducible refine (chargeparklaw24_example.calls  (⟨#[]⟩ : ByteArray) 0 7 6 16 4 0 0 _ A3.out).mono ?_); rintro e w19 ⟨rfl, hb⟩; refine ⟨_, rfl, ?_⟩; have n0_ := Aside0.mk (blk_below (g := gb149) (o := .cells #[.int .i64 0, .int .i64 0] 25 (0, 0)) (by (with_reducible repeat (first | refine blk_drewN ?_ _ | refine blk_drew ?_ | refine blk_alloc ?_ _)); refine blk_put (cs := #[.int .i64 0, .int .i64 0]) ?_ 1 _ rfl; (with_reducible repeat (first | refine blk_drewN ?_ _ | refine blk_drew ?_ | refine blk_alloc ?_ _)); refine blk_put (cs := #[.int .i64 0, .int .i64 0]) ?_ 0 _ rfl; (with_reducible repeat (first | refine blk_drewN ?_ _ | refine blk_drew ?_ | refine blk_alloc ?_ _)); exact BK149.out) hb); have n1_ := Aside0.mk (below_step (by repeat (first | (with_reducible first | exact HB.out | apply below_alloc | apply pw_below_drewN | apply below_drew1 | refine below_set ?_ GE149.out) | exact HB.out)) hb); clear BK149; clear HB; have BK149 := n0_; have HB := n1_; clear n0_ n1_; (try clear hb); (try clear hb2); (try clear hk); (try clear hi)) | ((with_reducible refine gate_callee (f := 10) rfl ?_); refine goesL_ (some 15) rfl rfl Tryd.func10 (by kernel_rfl) rfl #[.agg #[.string (⟨#[]⟩ : ByteArray), .int .i64 0, .int .i64 7, .int .i64 6, .int .i64 16, .int .i64 4, .int .i64 0, .int .i64 0], .agg #[.int .i64 0, .int .i64 0], .int .i64 81] rfl (by (try simp only [List.map_toArray, List.map_cons, List.map_nil]); first | done | rfl | (simp only [List.length_drop, List.length_take]; rfl)) ?_; (with_reducible refine (ramp_Next.calls (⟨#[]⟩ : ByteArray) 0 7 6 16 4 0 0 0 0 81 0 0 1 _ (hG.below (by repeat (first | (with_reducible first | exact HB.out | apply below_alloc | apply pw_below_drewN | apply below_drew1) | exact HB.out))) A4.out).mono ?_); rintro e w20 ⟨rfl, hb⟩; refine ⟨_, rfl, ?_⟩; have n0_ := Aside0.mk (blk_below (g := gb149) (o := .cells #[.int .i64 0, .int .i64 0] 25 (0, 0)) (by (with_reducible repeat (first | refine blk_drewN ?_ _ | refine blk_drew ?_ | refine blk_alloc ?_ _)); exact BK149.out) hb); have n1_ := Aside0.mk (below_step (by repeat (first | (with_reducible first | exact HB.out | apply below_alloc | apply pw_below_drewN | apply below_drew1 | refine below_set ?_ GE149.out) | exact HB.out)) hb); clear BK149; clear HB; have BK149 := n0_; have HB := n1_; clear n0_ n1_; (try clear hb); (try clear hb2); (try clear hk); (try clear hi)) | ((with_reducible refine gate_dst (N := 3) rfl ?_); refine box_event ?hg (N := 3) ?hd (cs := #[.int .i64 0, .int .i64 0]) (t := 25) ?hr ?_; (case hd => rfl); (case hg => rfl); (case hr => first | (go_simp; done) | (go_simp; rfl)); intro gb161 hg w21 hbox hb; have n0_ := Aside0.mk (blk_below (g := gb149) (o := .cells #[.int .i64 0, .int .i64 0] 25 (0, 0)) (by (with_reducible repeat (first | refine blk_drewN ?_ _ | refine blk_drew ?_ | refine blk_alloc ?_ _)); exact BK149.out) hb); have n1_ := Aside0.mk (below_step (by repeat (first | (with_reducible first | exact HB.out | apply below_alloc | apply pw_below_drewN | apply below_drew1 | refine below_set ?_ GE149.out) | exact HB.out)) hb); have n2_ := Aside0.mk (hbox); have n3_ := Aside0.mk ((by rw [hg]; exact (below_size (by repeat (first | (with_reducible first | exact HB.out | apply below_alloc | apply pw_below_drewN | apply below_drew1 | refine below_set ?_ GE149.out) | exact HB.out))) : w.heap.size ≤ gb161)); have n4_ := Aside0.mk ((by rw [hg]; exact (below_size (by repeat (first | (with_reducible first | exact HB.out | apply below_alloc | apply pw_below_drewN | apply below_drew1 | refine below_set ?_ GE149.out) | exact HB.out))) : w.heap.size ≤ gb161)); have n5_ := Aside0.mk ((by rw [hg]; exact Nat.ne_of_lt (blk_lt (g := gb149) (o := .cells #[.int .i64 0, .int .i64 0] 25 (0, 0)) (by (with_reducible repeat (first | refine blk_drewN ?_ _ | refine blk_drew ?_ | refine blk_alloc ?_ _)); exact BK149.out)) : gb149 ≠ gb161)); have n6_ := Aside0.mk ((by rw [hg]; exact Nat.ne_of_gt (blk_lt (g := gb149) (o := .cells #[.int .i64 0, .int .i64 0] 25 (0, 0)) (by (with_reducible repeat (first | refine blk_drewN ?_ _ | refine blk_drew ?_ | refine blk_alloc ?_ _)); exact BK149.out)) : gb161 ≠ gb149)); clear BK149; clear HB; have BK149 := n0_; have HB := n1_; have BK161 := n2_; have GW161 := n3_; have GE161 := n4_; have NB149_161 := n5_; have NB161_149 := n6_; clear n0_ n1_ n2_ n3_ n4_ n5_ n6_; clear hb hbox hg; have hnb22 := NB161_149.out; have hnc22 := NB149_161.out; have hcz23_0 : w21.cell? ⟨gb161, 0, none⟩ = some (.int .i64 0) := (blk_cell BK161.out 0).trans rfl; have hcz23_1 : w21.cell? ⟨gb161, 1, none⟩ = some (.int .i64 0) := (blk_cell BK161.out 1).trans rfl; have hfz23_0 := blk_frozen BK161.out 0; have hfz23_1 := blk_frozen BK161.out 1) | (go_at_call 16; (with_reducible refine (chargeparklaw24_example.calls  (⟨#[]⟩ : ByteArray) 0 7 6 16 4 0 0 _ A5.out).mono ?_); rintro e w24 ⟨rfl, hb⟩; have n0_ := Aside0.mk (blk_below (g := gb149) (o := .cells #[.int .i64 0, .int .i64 0] 25 (0, 0)) (by (with_reducible repeat (first | refine blk_drewN ?_ _ | refine blk_drew ?_ | refine blk_alloc ?_ _)); refine blk_far ?_ NB149_161.out _; (with_reducible repeat (first | refine blk_drewN ?_ _ | refine blk_drew ?_ | refine blk_alloc ?_ _)); refine blk_far ?_ NB149_161.out _; (with_reducible repeat (first | refine blk_drewN ?_ _ | refine blk_drew ?_ | refine blk_alloc ?_ _)); exact BK149.out) hb); have n1_ := Aside0.mk (blk_below (g := gb161) (o := .cells #[.int .i64 0, .int .i64 0] 25 (0, 0)) (by (with_reducible repeat (first | refine blk_drewN ?_ _ | refine blk_drew ?_ | refine blk_alloc ?_ _)); refine blk_put (cs := #[.int .i64 0, .int .i64 0]) ?_ 1 _ rfl; (with_reducible repeat (first | refine blk_drewN ?_ _ | refine blk_drew ?_ | refine blk_alloc ?_ _)); refine blk_put (cs := #[.int .i64 0, .int .i64 0]) ?_ 0 _ rfl; (with_reducible repeat (first | refine blk_drewN ?_ _ | refine blk_drew ?_ | refine blk_alloc ?_ _)); exact BK161.out) hb); have n2_ := Aside0.mk (below_step (by repeat (first | (with_reducible first | exact HB.out | apply below_alloc | apply pw_below_drewN | apply below_drew1 | refine below_set ?_ GE149.out | refine below_set ?_ GE161.out) | exact HB.out)) hb); clear BK149; clear BK161; clear HB; have BK149 := n0_; have BK161 := n1_; have HB := n2_; clear n0_ n1_ n2_; (try clear hb); (try clear hb2); (try clear hk); (try clear hi)) | (go_at_call 12; (with_reducible refine (ramp_Valid.calls (⟨#[]⟩ : ByteArray) 0 7 6 16 4 0 0 14 0 true _ A6.out).mono ?_); rintro e w25 ⟨rfl, hb⟩; have n0_ := Aside0.mk (blk_below (g := gb149) (o := .cells #[.int .i64 0, .int .i64 0] 25 (0, 0)) (by (with_reducible repeat (first | refine blk_drewN ?_ _ | refine blk_drew ?_ | refine blk_alloc ?_ _)); exact BK149.out) hb); have n1_ := Aside0.mk (blk_below (g := gb161) (o := .cells #[.int .i64 0, .int .i64 0] 25 (0, 0)) (by (with_reducible repeat (first | refine blk_drewN ?_ _ | refine blk_drew ?_ | refine blk_alloc ?_ _)); exact BK161.out) hb); have n2_ := Aside0.mk (below_step (by repeat (first | (with_reducible first | exact HB.out | apply below_alloc | apply pw_below_drewN | apply below_drew1 | refine below_set ?_ GE149.out | refine below_set ?_ GE161.out) | exact HB.out)) hb); clear BK149; clear BK161; clear HB; have BK149 := n0_; have BK161 := n1_; have HB := n2_; clear n0_ n1_ n2_; (try clear hb); (try clear hb2); (try clear hk); (try clear hi)) | (go_at_call 16; (with_reducible refine (chargeparklaw24_example.calls  (⟨#[]⟩ : ByteArray) 0 7 6 16 4 0 0 _ A7.out).mono ?_); rintro e w26 ⟨rfl, hb⟩; have n0_ := Aside0.mk (blk_below (g := gb149) (o := .cells #[.int .i64 0, .int .i64 0] 25 (0, 0)) (by (with_reducible repeat (first | refine blk_drewN ?_ _ | refine blk_drew ?_ | refine blk_alloc ?_ _)); exact BK149.out) hb); have n1_ := Aside0.mk (blk_below (g := gb161) (o := .cells #[.int .i64 0, .int .i64 0] 25 (0, 0)) (by (with_reducible repeat (first | refine blk_drewN ?_ _ | refine blk_drew ?_ | refine blk_alloc ?_ _)); exact BK161.out) hb); have n2_ := Aside0.mk (below_step (by repeat (first | (with_reducible first | exact HB.out | apply below_alloc | apply pw_below_drewN | apply below_drew1 | refine below_set ?_ GE149.out | refine below_set ?_ GE161.out) | exact HB.out)) hb); clear BK149; clear BK161; clear HB; have BK149 := n0_; have BK161 := n1_; have HB := n2_; clear n0_ n1_ n2_; (try clear hb); (try clear hb2); (try clear hk); (try clear hi)) | (go_at_call 12; (with_reducible refine (ramp_Valid.calls (⟨#[]⟩ : ByteArray) 0 7 6 16 4 0 0 18 0 false _ A8.out).mono ?_); rintro e w27 ⟨rfl, hb⟩; have n0_ := Aside0.mk (blk_below (g := gb149) (o := .cells #[.int .i64 0, .int .i64 0] 25 (0, 0)) (by (with_reducible repeat (first | refine blk_drewN ?_ _ | refine blk_drew ?_ | refine blk_alloc ?_ _)); exact BK149.out) hb); have n1_ := Aside0.mk (blk_below (g := gb161) (o := .cells #[.int .i64 0, .int .i64 0] 25 (0, 0)) (by (with_reducible repeat (first | refine blk_drewN ?_ _ | refine blk_drew ?_ | refine blk_alloc ?_ _)); exact BK161.out) hb); have n2_ := Aside0.mk (below_step (by repeat (first | (with_reducible first | exact HB.out | apply below_alloc | apply pw_below_drewN | apply below_drew1 | refine below_set ?_ GE149.out | refine below_set ?_ GE161.out) | exact HB.out)) hb); clear BK149; clear BK161; clear HB; have BK149 := n0_; have BK161 := n1_; have HB := n2_; clear n0_ n1_ n2_; (try clear hb); (try clear hb2); (try clear hk); (try clear hi)) | (go_at_call 17; (with_reducible refine (chargeparklaw24_gives.calls 0 5 16 6 0 true _ (hG.below (by repeat (first | (with_reducible first | exact HB.out | apply below_alloc | apply pw_below_drewN | apply below_drew1) | exact HB.out))) A9.out).mono ?_); rintro e w28 ⟨rfl, hb⟩; have n0_ := Aside0.mk (blk_below (g := gb149) (o := .cells #[.int .i64 0, .int .i64 0] 25 (0, 0)) (by (with_reducible repeat (first | refine blk_drewN ?_ _ | refine blk_drew ?_ | refine blk_alloc ?_ _)); exact BK149.out) hb); have n1_ := Aside0.mk (blk_below (g := gb161) (o := .cells #[.int .i64 0, .int .i64 0] 25 (0, 0)) (by (with_reducible repeat (first | refine blk_drewN ?_ _ | refine blk_drew ?_ | refine blk_alloc ?_ _)); exact BK161.out) hb); have n2_ := Aside0.mk (below_step (by repeat (first | (with_reducible first | exact HB.out | apply below_alloc | apply pw_below_drewN | apply below_drew1 | refine below_set ?_ GE149.out | refine below_set ?_ GE161.out) | exact HB.out)) hb); clear BK149; clear BK161; clear HB; have BK149 := n0_; have BK161 := n1_; have HB := n2_; clear n0_ n1_ n2_; (try clear hb); (try clear hb2); (try clear hk); (try clear hi)) | (go_at_call 17; (with_reducible refine (chargeparklaw24_gives.calls 6 0 16 10 1 true _ (hG.below (by repeat (first | (with_reducible first | exact HB.out | apply below_alloc | apply pw_below_drewN | apply below_drew1) | exact HB.out))) A10.out).mono ?_); rintro e w29 ⟨rfl, hb⟩; have n0_ := Aside0.mk (blk_below (g := gb149) (o := .cells #[.int .i64 0, .int .i64 0] 25 (0, 0)) (by (with_reducible repeat (first | refine blk_drewN ?_ _ | refine blk_drew ?_ | refine blk_alloc ?_ _)); exact BK149.out) hb); have n1_ := Aside0.mk (blk_below (g := gb161) (o := .cells #[.int .i64 0, .int .i64 0] 25 (0, 0)) (by (with_reducible repeat (first | refine blk_drewN ?_ _ | refine blk_drew ?_ | refine blk_alloc ?_ _)); exact BK161.out) hb); have n2_ := Aside0.mk (below_step (by repeat (first | (with_reducible first | exact HB.out | apply below_alloc | apply pw_below_drewN | apply below_drew1 | refine below_set ?_ GE149.out | refine below_set ?_ GE161.out) | exact HB.out)) hb); clear BK149; clear BK161; clear HB; have BK149 := n0_; have BK161 := n1_; have HB := n2_; clear n0_ n1_ n2_; (try clear hb); (try clear hb2); (try clear hk); (try clear hi)) | (go_at_call 17; (with_reducible refine (chargeparklaw24_gives.calls 10 1 9 6 2 true _ (hG.below (by repeat (first | (with_reducible first | exact HB.out | apply below_alloc | apply pw_below_drewN | apply below_drew1) | exact HB.out))) A11.out).mono ?_); rintro e w30 ⟨rfl, hb⟩; have n0_ := Aside0.mk (blk_below (g := gb149) (o := .cells #[.int .i64 0, .int .i64 0] 25 (0, 0)) (by (with_reducible repeat (first | refine blk_drewN ?_ _ | refine blk_drew ?_ | refine blk_alloc ?_ _)); exact BK149.out) hb); have n1_ := Aside0.mk (blk_below (g := gb161) (o := .cells #[.int .i64 0, .int .i64 0] 25 (0, 0)) (by (with_reducible repeat (first | refine blk_drewN ?_ _ | refine blk_drew ?_ | refine blk_alloc ?_ _)); exact BK161.out) hb); have n2_ := Aside0.mk (below_step (by repeat (first | (with_reducible first | exact HB.out | apply below_alloc | apply pw_below_drewN | apply below_drew1 | refine below_set ?_ GE149.out | refine below_set ?_ GE161.out) | exact HB.out)) hb); clear BK149; clear BK161; clear HB; have BK149 := n0_; have BK161 := n1_; have HB := n2_; clear n0_ n1_ n2_; (try clear hb); (try clear hb2); (try clear hk); (try clear hi)) | (go_at_call 17; (with_reducible refine (chargeparklaw24_gives.calls 6 2 5 0 0 true _ (hG.below (by repeat (first | (with_reducible first | exact HB.out | apply below_alloc | apply pw_below_drewN | apply below_drew1) | exact HB.out))) A12.out).mono ?_); rintro e w31 ⟨rfl, hb⟩; have n0_ := Aside0.mk (blk_below (g := gb149) (o := .cells #[.int .i64 0, .int .i64 0] 25 (0, 0)) (by (with_reducible repeat (first | refine blk_drewN ?_ _ | refine blk_drew ?_ | refine blk_alloc ?_ _)); exact BK149.out) hb); have n1_ := Aside0.mk (blk_below (g := gb161) (o := .cells #[.int .i64 0, .int .i64 0] 25 (0, 0)) (by (with_reducible repeat (first | refine blk_drewN ?_ _ | refine blk_drew ?_ | refine blk_alloc ?_ _)); exact BK161.out) hb); have n2_ := Aside0.mk (below_step (by repeat (first | (with_reducible first | exact HB.out | apply below_alloc | apply pw_below_drewN | apply below_drew1 | refine below_set ?_ GE149.out | refine below_set ?_ GE161.out) | exact HB.out)) hb); clear BK149; clear BK161; clear HB; have BK149 := n0_; have BK161 := n1_; have HB := n2_; clear n0_ n1_ n2_; (try clear hb); (try clear hb2); (try clear hk); (try clear hi)) | (go_at_call 17; (with_reducible refine (chargeparklaw24_gives.calls 0 0 16 0 1 true _ (hG.below (by repeat (first | (with_reducible first | exact HB.out | apply below_alloc | apply pw_below_drewN | apply below_drew1) | exact HB.out))) A13.out).mono ?_); rintro e w32 ⟨rfl, hb⟩; have n0_ := Aside0.mk (blk_below (g := gb149) (o := .cells #[.int .i64 0, .int .i64 0] 25 (0, 0)) (by (with_reducible repeat (first | refine blk_drewN ?_ _ | refine blk_drew ?_ | refine blk_alloc ?_ _)); exact BK149.out) hb); have n1_ := Aside0.mk (blk_below (g := gb161) (o := .cells #[.int .i64 0, .int .i64 0] 25 (0, 0)) (by (with_reducible repeat (first | refine blk_drewN ?_ _ | refine blk_drew ?_ | refine blk_alloc ?_ _)); exact BK161.out) hb); have n2_ := Aside0.mk (below_step (by repeat (first | (with_reducible first | exact HB.out | apply below_alloc | apply pw_below_drewN | apply below_drew1 | refine below_set ?_ GE149.out | refine below_set ?_ GE161.out) | exact HB.out)) hb); clear BK149; clear BK161; clear HB; have BK149 := n0_; have BK161 := n1_; have HB := n2_; clear n0_ n1_ n2_; (try clear hb); (try clear hb2); (try clear hk); (try clear hi)) | (go_at_call 17; (with_reducible refine (chargeparklaw24_gives.calls 0 4 16 0 5 true _ (hG.below (by repeat (first | (with_reducible first | exact HB.out | apply below_alloc | apply pw_below_drewN | apply below_drew1) | exact HB.out))) A14.out).mono ?_); rintro e w33 ⟨rfl, hb⟩; have n0_ := Aside0.mk (blk_below (g := gb149) (o := .cells #[.int .i64 0, .int .i64 0] 25 (0, 0)) (by (with_reducible repeat (first | refine blk_drewN ?_ _ | refine blk_drew ?_ | refine blk_alloc ?_ _)); exact BK149.out) hb); have n1_ := Aside0.mk (blk_below (g := gb161) (o := .cells #[.int .i64 0, .int .i64 0] 25 (0, 0)) (by (with_reducible repeat (first | refine blk_drewN ?_ _ | refine blk_drew ?_ | refine blk_alloc ?_ _)); exact BK161.out) hb); have n2_ := Aside0.mk (below_step (by repeat (first | (with_reducible first | exact HB.out | apply below_alloc | apply pw_below_drewN | apply below_drew1 | refine below_set ?_ GE149.out | refine below_set ?_ GE161.out) | exact HB.out)) hb); clear BK149; clear BK161; clear HB; have BK149 := n0_; have BK161 := n1_; have HB := n2_; clear n0_ n1_ n2_; (try clear hb); (try clear hb2); (try clear hk); (try clear hi)))
  go_ret
  exact ⟨by first | rfl | (simp [errW_none, errW_some] <;> rfl) | (simp [*, errW_none, errW_some] <;> rfl), by repeat (first | (with_reducible first | exact HB.out | apply below_alloc | apply pw_below_drewN | apply below_drew1 | refine below_set ?_ GE149.out | refine below_set ?_ GE161.out) | exact HB.out)⟩

/-- The head answers true. -/
def chargeparklaw24_head_c.f : Option Bool := some true
theorem chargeparklaw24_head_c.calls (r : Bool) (w : World) (hG : Hand.G w) (h : chargeparklaw24_head_c.f = some r) :
    Calls Tryd.prog 9 #[] w fun e w' => e = .returned (.bool r) ∧ Below w.heap.size w w' := by
  obtain rfl := Option.some.inj h
  exact chargeparklaw24_head.calls true w hG (by kernel_rfl) ⟨rfl⟩

/-! ### chargeparkref12_Charger: function 15 -/
def chargeparkref12_Charger.f (a0_0 : ByteArray) (a0_1 : Int) (a0_2 : Int) (a0_3 : Int) (a0_4 : Int) (a0_5 : Int) (a0_6 : Int) (a0_7 : Int) : Option (Bool) := if a0_2 < 1 then (some false) else (if a0_2 > 7 then (some false) else (if a0_3 < 1 then (some false) else (if a0_4 > 80 then (some false) else (if a0_3 > a0_4 then (some false) else (if a0_5 < 1 then (some false) else (if a0_5 > 80 then (some false) else (if a0_6 = 0 then (some true) else (if a0_6 ≥ a0_3 then (some (decide (a0_6 ≤ a0_4))) else (some false)))))))))
set_option maxHeartbeats 8000000 in
set_option maxRecDepth 100000 in
theorem chargeparkref12_Charger.calls (a0_0 : ByteArray) (a0_1 : Int) (a0_2 : Int) (a0_3 : Int) (a0_4 : Int) (a0_5 : Int) (a0_6 : Int) (a0_7 : Int) (r : Bool) (w : World) (h : chargeparkref12_Charger.f a0_0 a0_1 a0_2 a0_3 a0_4 a0_5 a0_6 a0_7 = some r) :
    Calls Tryd.prog 15 #[.agg #[.string a0_0, .int .i64 a0_1, .int .i64 a0_2, .int .i64 a0_3, .int .i64 a0_4, .int .i64 a0_5, .int .i64 a0_6, .int .i64 a0_7]] w fun e w' => e = .returned (.bool r) ∧ Below w.heap.size w w' := by
  have hu23 := Tryd.underlying23
  have HB := Aside0.mk (Below.refl w.heap.size w)
  have H : (if a0_2 < 1 then (some false) else (if a0_2 > 7 then (some false) else (if a0_3 < 1 then (some false) else (if a0_4 > 80 then (some false) else (if a0_3 > a0_4 then (some false) else (if a0_5 < 1 then (some false) else (if a0_5 > 80 then (some false) else (if a0_6 = 0 then (some true) else (if a0_6 ≥ a0_3 then (some (decide (a0_6 ≤ a0_4))) else (some false)))))))))) = some r := h
  clear h
  by_cases c2 : a0_2 < 1
  · rw [if_pos c2] at H
    have c2b0 : decide (a0_2 < 1) = true := decide_eq_true c2
    clear c2
    obtain rfl := Option.some.inj H
    simp only [Option.some.injEq, Prod.mk.injEq] at H
    obtain ⟨rfl⟩ := H
    go_enter Tryd.func15, Tryd.ntmps15
    go_wp2_with (first | ((with_reducible refine gate_dst (N := 1) rfl ?_); refine box_event ?hg (N := 1) ?hd (cs := #[.string a0_0, .int .i64 a0_1, .int .i64 a0_2, .int .i64 a0_3, .int .i64 a0_4, .int .i64 a0_5, .int .i64 a0_6, .int .i64 a0_7]) (t := 23) ?hr ?_; (case hd => rfl); (case hg => rfl); (case hr => first | (go_simp; done) | (go_simp; rfl)); intro gb186 hg w3 hbox hb; have n0_ := Aside0.mk (below_step (by repeat (first | (with_reducible first | exact HB.out | apply below_alloc | apply pw_below_drewN | apply below_drew1) | exact HB.out)) hb); have n1_ := Aside0.mk (hbox); have n2_ := Aside0.mk ((by rw [hg]; exact (below_size (by repeat (first | (with_reducible first | exact HB.out | apply below_alloc | apply pw_below_drewN | apply below_drew1) | exact HB.out))) : w.heap.size ≤ gb186)); have n3_ := Aside0.mk ((by rw [hg]; exact (below_size (by repeat (first | (with_reducible first | exact HB.out | apply below_alloc | apply pw_below_drewN | apply below_drew1) | exact HB.out))) : w.heap.size ≤ gb186)); clear HB; have HB := n0_; have BK186 := n1_; have GW186 := n2_; have GE186 := n3_; clear n0_ n1_ n2_ n3_; clear hb hbox hg; have hcz4_0 : w3.cell? ⟨gb186, 0, none⟩ = some (.string a0_0) := (blk_cell BK186.out 0).trans rfl; have hcz4_1 : w3.cell? ⟨gb186, 1, none⟩ = some (.int .i64 a0_1) := (blk_cell BK186.out 1).trans rfl; have hcz4_2 : w3.cell? ⟨gb186, 2, none⟩ = some (.int .i64 a0_2) := (blk_cell BK186.out 2).trans rfl; have hcz4_3 : w3.cell? ⟨gb186, 3, none⟩ = some (.int .i64 a0_3) := (blk_cell BK186.out 3).trans rfl; have hcz4_4 : w3.cell? ⟨gb186, 4, none⟩ = some (.int .i64 a0_4) := (blk_cell BK186.out 4).trans rfl; have hcz4_5 : w3.cell? ⟨gb186, 5, none⟩ = some (.int .i64 a0_5) := (blk_cell BK186.out 5).trans rfl; have hcz4_6 : w3.cell? ⟨gb186, 6, none⟩ = some (.int .i64 a0_6) := (blk_cell BK186.out 6).trans rfl; have hcz4_7 : w3.cell? ⟨gb186, 7, none⟩ = some (.int .i64 a0_7) := (blk_cell BK186.out 7).trans rfl; have hfz4_0 := blk_frozen BK186.out 0; have hfz4_1 := blk_frozen BK186.out 1; have hfz4_2 := blk_frozen BK186.out 2; have hfz4_3 := blk_frozen BK186.out 3; have hfz4_4 := blk_frozen BK186.out 4; have hfz4_5 := blk_frozen BK186.out 5; have hfz4_6 := blk_frozen BK186.out 6; have hfz4_7 := blk_frozen BK186.out 7))
    go_ret
    exact ⟨by first | rfl | (simp [errW_none, errW_some] <;> rfl) | (simp [*, errW_none, errW_some] <;> rfl), by repeat (first | (with_reducible first | exact HB.out | apply below_alloc | apply pw_below_drewN | apply below_drew1 | refine below_set ?_ GE186.out) | exact HB.out)⟩
  · rw [if_neg c2] at H
    have c2b0 : decide (a0_2 < 1) = false := decide_eq_false c2
    clear c2
    by_cases c5 : a0_2 > 7
    · rw [if_pos c5] at H
      have c5b0 : decide (7 < a0_2) = true := decide_eq_true c5
      clear c5
      obtain rfl := Option.some.inj H
      simp only [Option.some.injEq, Prod.mk.injEq] at H
      obtain ⟨rfl⟩ := H
      go_enter Tryd.func15, Tryd.ntmps15
      go_wp2_with (first | ((with_reducible refine gate_dst (N := 1) rfl ?_); refine box_event ?hg (N := 1) ?hd (cs := #[.string a0_0, .int .i64 a0_1, .int .i64 a0_2, .int .i64 a0_3, .int .i64 a0_4, .int .i64 a0_5, .int .i64 a0_6, .int .i64 a0_7]) (t := 23) ?hr ?_; (case hd => rfl); (case hg => rfl); (case hr => first | (go_simp; done) | (go_simp; rfl)); intro gb186 hg w6 hbox hb; have n0_ := Aside0.mk (below_step (by repeat (first | (with_reducible first | exact HB.out | apply below_alloc | apply pw_below_drewN | apply below_drew1) | exact HB.out)) hb); have n1_ := Aside0.mk (hbox); have n2_ := Aside0.mk ((by rw [hg]; exact (below_size (by repeat (first | (with_reducible first | exact HB.out | apply below_alloc | apply pw_below_drewN | apply below_drew1) | exact HB.out))) : w.heap.size ≤ gb186)); have n3_ := Aside0.mk ((by rw [hg]; exact (below_size (by repeat (first | (with_reducible first | exact HB.out | apply below_alloc | apply pw_below_drewN | apply below_drew1) | exact HB.out))) : w.heap.size ≤ gb186)); clear HB; have HB := n0_; have BK186 := n1_; have GW186 := n2_; have GE186 := n3_; clear n0_ n1_ n2_ n3_; clear hb hbox hg; have hcz7_0 : w6.cell? ⟨gb186, 0, none⟩ = some (.string a0_0) := (blk_cell BK186.out 0).trans rfl; have hcz7_1 : w6.cell? ⟨gb186, 1, none⟩ = some (.int .i64 a0_1) := (blk_cell BK186.out 1).trans rfl; have hcz7_2 : w6.cell? ⟨gb186, 2, none⟩ = some (.int .i64 a0_2) := (blk_cell BK186.out 2).trans rfl; have hcz7_3 : w6.cell? ⟨gb186, 3, none⟩ = some (.int .i64 a0_3) := (blk_cell BK186.out 3).trans rfl; have hcz7_4 : w6.cell? ⟨gb186, 4, none⟩ = some (.int .i64 a0_4) := (blk_cell BK186.out 4).trans rfl; have hcz7_5 : w6.cell? ⟨gb186, 5, none⟩ = some (.int .i64 a0_5) := (blk_cell BK186.out 5).trans rfl; have hcz7_6 : w6.cell? ⟨gb186, 6, none⟩ = some (.int .i64 a0_6) := (blk_cell BK186.out 6).trans rfl; have hcz7_7 : w6.cell? ⟨gb186, 7, none⟩ = some (.int .i64 a0_7) := (blk_cell BK186.out 7).trans rfl; have hfz7_0 := blk_frozen BK186.out 0; have hfz7_1 := blk_frozen BK186.out 1; have hfz7_2 := blk_frozen BK186.out 2; have hfz7_3 := blk_frozen BK186.out 3; have hfz7_4 := blk_frozen BK186.out 4; have hfz7_5 := blk_frozen BK186.out 5; have hfz7_6 := blk_frozen BK186.out 6; have hfz7_7 := blk_frozen BK186.out 7))
      go_ret
      exact ⟨by first | rfl | (simp [errW_none, errW_some] <;> rfl) | (simp [*, errW_none, errW_some] <;> rfl), by repeat (first | (with_reducible first | exact HB.out | apply below_alloc | apply pw_below_drewN | apply below_drew1 | refine below_set ?_ GE186.out) | exact HB.out)⟩
    · rw [if_neg c5] at H
      have c5b0 : decide (7 < a0_2) = false := decide_eq_false c5
      clear c5
      by_cases c8 : a0_3 < 1
      · rw [if_pos c8] at H
        have c8b0 : decide (a0_3 < 1) = true := decide_eq_true c8
        clear c8
        obtain rfl := Option.some.inj H
        simp only [Option.some.injEq, Prod.mk.injEq] at H
        obtain ⟨rfl⟩ := H
        go_enter Tryd.func15, Tryd.ntmps15
        go_wp2_with (first | ((with_reducible refine gate_dst (N := 1) rfl ?_); refine box_event ?hg (N := 1) ?hd (cs := #[.string a0_0, .int .i64 a0_1, .int .i64 a0_2, .int .i64 a0_3, .int .i64 a0_4, .int .i64 a0_5, .int .i64 a0_6, .int .i64 a0_7]) (t := 23) ?hr ?_; (case hd => rfl); (case hg => rfl); (case hr => first | (go_simp; done) | (go_simp; rfl)); intro gb186 hg w9 hbox hb; have n0_ := Aside0.mk (below_step (by repeat (first | (with_reducible first | exact HB.out | apply below_alloc | apply pw_below_drewN | apply below_drew1) | exact HB.out)) hb); have n1_ := Aside0.mk (hbox); have n2_ := Aside0.mk ((by rw [hg]; exact (below_size (by repeat (first | (with_reducible first | exact HB.out | apply below_alloc | apply pw_below_drewN | apply below_drew1) | exact HB.out))) : w.heap.size ≤ gb186)); have n3_ := Aside0.mk ((by rw [hg]; exact (below_size (by repeat (first | (with_reducible first | exact HB.out | apply below_alloc | apply pw_below_drewN | apply below_drew1) | exact HB.out))) : w.heap.size ≤ gb186)); clear HB; have HB := n0_; have BK186 := n1_; have GW186 := n2_; have GE186 := n3_; clear n0_ n1_ n2_ n3_; clear hb hbox hg; have hcz10_0 : w9.cell? ⟨gb186, 0, none⟩ = some (.string a0_0) := (blk_cell BK186.out 0).trans rfl; have hcz10_1 : w9.cell? ⟨gb186, 1, none⟩ = some (.int .i64 a0_1) := (blk_cell BK186.out 1).trans rfl; have hcz10_2 : w9.cell? ⟨gb186, 2, none⟩ = some (.int .i64 a0_2) := (blk_cell BK186.out 2).trans rfl; have hcz10_3 : w9.cell? ⟨gb186, 3, none⟩ = some (.int .i64 a0_3) := (blk_cell BK186.out 3).trans rfl; have hcz10_4 : w9.cell? ⟨gb186, 4, none⟩ = some (.int .i64 a0_4) := (blk_cell BK186.out 4).trans rfl; have hcz10_5 : w9.cell? ⟨gb186, 5, none⟩ = some (.int .i64 a0_5) := (blk_cell BK186.out 5).trans rfl; have hcz10_6 : w9.cell? ⟨gb186, 6, none⟩ = some (.int .i64 a0_6) := (blk_cell BK186.out 6).trans rfl; have hcz10_7 : w9.cell? ⟨gb186, 7, none⟩ = some (.int .i64 a0_7) := (blk_cell BK186.out 7).trans rfl; have hfz10_0 := blk_frozen BK186.out 0; have hfz10_1 := blk_frozen BK186.out 1; have hfz10_2 := blk_frozen BK186.out 2; have hfz10_3 := blk_frozen BK186.out 3; have hfz10_4 := blk_frozen BK186.out 4; have hfz10_5 := blk_frozen BK186.out 5; have hfz10_6 := blk_frozen BK186.out 6; have hfz10_7 := blk_frozen BK186.out 7))
        go_ret
        exact ⟨by first | rfl | (simp [errW_none, errW_some] <;> rfl) | (simp [*, errW_none, errW_some] <;> rfl), by repeat (first | (with_reducible first | exact HB.out | apply below_alloc | apply pw_below_drewN | apply below_drew1 | refine below_set ?_ GE186.out) | exact HB.out)⟩
      · rw [if_neg c8] at H
        have c8b0 : decide (a0_3 < 1) = false := decide_eq_false c8
        clear c8
        by_cases c11 : a0_4 > 80
        · rw [if_pos c11] at H
          have c11b0 : decide (80 < a0_4) = true := decide_eq_true c11
          clear c11
          obtain rfl := Option.some.inj H
          simp only [Option.some.injEq, Prod.mk.injEq] at H
          obtain ⟨rfl⟩ := H
          go_enter Tryd.func15, Tryd.ntmps15
          go_wp2_with (first | ((with_reducible refine gate_dst (N := 1) rfl ?_); refine box_event ?hg (N := 1) ?hd (cs := #[.string a0_0, .int .i64 a0_1, .int .i64 a0_2, .int .i64 a0_3, .int .i64 a0_4, .int .i64 a0_5, .int .i64 a0_6, .int .i64 a0_7]) (t := 23) ?hr ?_; (case hd => rfl); (case hg => rfl); (case hr => first | (go_simp; done) | (go_simp; rfl)); intro gb186 hg w12 hbox hb; have n0_ := Aside0.mk (below_step (by repeat (first | (with_reducible first | exact HB.out | apply below_alloc | apply pw_below_drewN | apply below_drew1) | exact HB.out)) hb); have n1_ := Aside0.mk (hbox); have n2_ := Aside0.mk ((by rw [hg]; exact (below_size (by repeat (first | (with_reducible first | exact HB.out | apply below_alloc | apply pw_below_drewN | apply below_drew1) | exact HB.out))) : w.heap.size ≤ gb186)); have n3_ := Aside0.mk ((by rw [hg]; exact (below_size (by repeat (first | (with_reducible first | exact HB.out | apply below_alloc | apply pw_below_drewN | apply below_drew1) | exact HB.out))) : w.heap.size ≤ gb186)); clear HB; have HB := n0_; have BK186 := n1_; have GW186 := n2_; have GE186 := n3_; clear n0_ n1_ n2_ n3_; clear hb hbox hg; have hcz13_0 : w12.cell? ⟨gb186, 0, none⟩ = some (.string a0_0) := (blk_cell BK186.out 0).trans rfl; have hcz13_1 : w12.cell? ⟨gb186, 1, none⟩ = some (.int .i64 a0_1) := (blk_cell BK186.out 1).trans rfl; have hcz13_2 : w12.cell? ⟨gb186, 2, none⟩ = some (.int .i64 a0_2) := (blk_cell BK186.out 2).trans rfl; have hcz13_3 : w12.cell? ⟨gb186, 3, none⟩ = some (.int .i64 a0_3) := (blk_cell BK186.out 3).trans rfl; have hcz13_4 : w12.cell? ⟨gb186, 4, none⟩ = some (.int .i64 a0_4) := (blk_cell BK186.out 4).trans rfl; have hcz13_5 : w12.cell? ⟨gb186, 5, none⟩ = some (.int .i64 a0_5) := (blk_cell BK186.out 5).trans rfl; have hcz13_6 : w12.cell? ⟨gb186, 6, none⟩ = some (.int .i64 a0_6) := (blk_cell BK186.out 6).trans rfl; have hcz13_7 : w12.cell? ⟨gb186, 7, none⟩ = some (.int .i64 a0_7) := (blk_cell BK186.out 7).trans rfl; have hfz13_0 := blk_frozen BK186.out 0; have hfz13_1 := blk_frozen BK186.out 1; have hfz13_2 := blk_frozen BK186.out 2; have hfz13_3 := blk_frozen BK186.out 3; have hfz13_4 := blk_frozen BK186.out 4; have hfz13_5 := blk_frozen BK186.out 5; have hfz13_6 := blk_frozen BK186.out 6; have hfz13_7 := blk_frozen BK186.out 7))
          go_ret
          exact ⟨by first | rfl | (simp [errW_none, errW_some] <;> rfl) | (simp [*, errW_none, errW_some] <;> rfl), by repeat (first | (with_reducible first | exact HB.out | apply below_alloc | apply pw_below_drewN | apply below_drew1 | refine below_set ?_ GE186.out) | exact HB.out)⟩
        · rw [if_neg c11] at H
          have c11b0 : decide (80 < a0_4) = false := decide_eq_false c11
          clear c11
          by_cases c14 : a0_3 > a0_4
          · rw [if_pos c14] at H
            have c14b0 : decide (a0_4 < a0_3) = true := decide_eq_true c14
            clear c14
            obtain rfl := Option.some.inj H
            simp only [Option.some.injEq, Prod.mk.injEq] at H
            obtain ⟨rfl⟩ := H
            go_enter Tryd.func15, Tryd.ntmps15
            go_wp2_with (first | ((with_reducible refine gate_dst (N := 1) rfl ?_); refine box_event ?hg (N := 1) ?hd (cs := #[.string a0_0, .int .i64 a0_1, .int .i64 a0_2, .int .i64 a0_3, .int .i64 a0_4, .int .i64 a0_5, .int .i64 a0_6, .int .i64 a0_7]) (t := 23) ?hr ?_; (case hd => rfl); (case hg => rfl); (case hr => first | (go_simp; done) | (go_simp; rfl)); intro gb186 hg w15 hbox hb; have n0_ := Aside0.mk (below_step (by repeat (first | (with_reducible first | exact HB.out | apply below_alloc | apply pw_below_drewN | apply below_drew1) | exact HB.out)) hb); have n1_ := Aside0.mk (hbox); have n2_ := Aside0.mk ((by rw [hg]; exact (below_size (by repeat (first | (with_reducible first | exact HB.out | apply below_alloc | apply pw_below_drewN | apply below_drew1) | exact HB.out))) : w.heap.size ≤ gb186)); have n3_ := Aside0.mk ((by rw [hg]; exact (below_size (by repeat (first | (with_reducible first | exact HB.out | apply below_alloc | apply pw_below_drewN | apply below_drew1) | exact HB.out))) : w.heap.size ≤ gb186)); clear HB; have HB := n0_; have BK186 := n1_; have GW186 := n2_; have GE186 := n3_; clear n0_ n1_ n2_ n3_; clear hb hbox hg; have hcz16_0 : w15.cell? ⟨gb186, 0, none⟩ = some (.string a0_0) := (blk_cell BK186.out 0).trans rfl; have hcz16_1 : w15.cell? ⟨gb186, 1, none⟩ = some (.int .i64 a0_1) := (blk_cell BK186.out 1).trans rfl; have hcz16_2 : w15.cell? ⟨gb186, 2, none⟩ = some (.int .i64 a0_2) := (blk_cell BK186.out 2).trans rfl; have hcz16_3 : w15.cell? ⟨gb186, 3, none⟩ = some (.int .i64 a0_3) := (blk_cell BK186.out 3).trans rfl; have hcz16_4 : w15.cell? ⟨gb186, 4, none⟩ = some (.int .i64 a0_4) := (blk_cell BK186.out 4).trans rfl; have hcz16_5 : w15.cell? ⟨gb186, 5, none⟩ = some (.int .i64 a0_5) := (blk_cell BK186.out 5).trans rfl; have hcz16_6 : w15.cell? ⟨gb186, 6, none⟩ = some (.int .i64 a0_6) := (blk_cell BK186.out 6).trans rfl; have hcz16_7 : w15.cell? ⟨gb186, 7, none⟩ = some (.int .i64 a0_7) := (blk_cell BK186.out 7).trans rfl; have hfz16_0 := blk_frozen BK186.out 0; have hfz16_1 := blk_frozen BK186.out 1; have hfz16_2 := blk_frozen BK186.out 2; have hfz16_3 := blk_frozen BK186.out 3; have hfz16_4 := blk_frozen BK186.out 4; have hfz16_5 := blk_frozen BK186.out 5; have hfz16_6 := blk_frozen BK186.out 6; have hfz16_7 := blk_frozen BK186.out 7))
            go_ret
            exact ⟨by first | rfl | (simp [errW_none, errW_some] <;> rfl) | (simp [*, errW_none, errW_some] <;> rfl), by repeat (first | (with_reducible first | exact HB.out | apply below_alloc | apply pw_below_drewN | apply below_drew1 | refine below_set ?_ GE186.out) | exact HB.out)⟩
          · rw [if_neg c14] at H
            have c14b0 : decide (a0_4 < a0_3) = false := decide_eq_false c14
            clear c14
            by_cases c17 : a0_5 < 1
            · rw [if_pos c17] at H
              have c17b0 : decide (a0_5 < 1) = true := decide_eq_true c17
              clear c17
              obtain rfl := Option.some.inj H
              simp only [Option.some.injEq, Prod.mk.injEq] at H
              obtain ⟨rfl⟩ := H
              go_enter Tryd.func15, Tryd.ntmps15
              go_wp2_with (first | ((with_reducible refine gate_dst (N := 1) rfl ?_); refine box_event ?hg (N := 1) ?hd (cs := #[.string a0_0, .int .i64 a0_1, .int .i64 a0_2, .int .i64 a0_3, .int .i64 a0_4, .int .i64 a0_5, .int .i64 a0_6, .int .i64 a0_7]) (t := 23) ?hr ?_; (case hd => rfl); (case hg => rfl); (case hr => first | (go_simp; done) | (go_simp; rfl)); intro gb186 hg w18 hbox hb; have n0_ := Aside0.mk (below_step (by repeat (first | (with_reducible first | exact HB.out | apply below_alloc | apply pw_below_drewN | apply below_drew1) | exact HB.out)) hb); have n1_ := Aside0.mk (hbox); have n2_ := Aside0.mk ((by rw [hg]; exact (below_size (by repeat (first | (with_reducible first | exact HB.out | apply below_alloc | apply pw_below_drewN | apply below_drew1) | exact HB.out))) : w.heap.size ≤ gb186)); have n3_ := Aside0.mk ((by rw [hg]; exact (below_size (by repeat (first | (with_reducible first | exact HB.out | apply below_alloc | apply pw_below_drewN | apply below_drew1) | exact HB.out))) : w.heap.size ≤ gb186)); clear HB; have HB := n0_; have BK186 := n1_; have GW186 := n2_; have GE186 := n3_; clear n0_ n1_ n2_ n3_; clear hb hbox hg; have hcz19_0 : w18.cell? ⟨gb186, 0, none⟩ = some (.string a0_0) := (blk_cell BK186.out 0).trans rfl; have hcz19_1 : w18.cell? ⟨gb186, 1, none⟩ = some (.int .i64 a0_1) := (blk_cell BK186.out 1).trans rfl; have hcz19_2 : w18.cell? ⟨gb186, 2, none⟩ = some (.int .i64 a0_2) := (blk_cell BK186.out 2).trans rfl; have hcz19_3 : w18.cell? ⟨gb186, 3, none⟩ = some (.int .i64 a0_3) := (blk_cell BK186.out 3).trans rfl; have hcz19_4 : w18.cell? ⟨gb186, 4, none⟩ = some (.int .i64 a0_4) := (blk_cell BK186.out 4).trans rfl; have hcz19_5 : w18.cell? ⟨gb186, 5, none⟩ = some (.int .i64 a0_5) := (blk_cell BK186.out 5).trans rfl; have hcz19_6 : w18.cell? ⟨gb186, 6, none⟩ = some (.int .i64 a0_6) := (blk_cell BK186.out 6).trans rfl; have hcz19_7 : w18.cell? ⟨gb186, 7, none⟩ = some (.int .i64 a0_7) := (blk_cell BK186.out 7).trans rfl; have hfz19_0 := blk_frozen BK186.out 0; have hfz19_1 := blk_frozen BK186.out 1; have hfz19_2 := blk_frozen BK186.out 2; have hfz19_3 := blk_frozen BK186.out 3; have hfz19_4 := blk_frozen BK186.out 4; have hfz19_5 := blk_frozen BK186.out 5; have hfz19_6 := blk_frozen BK186.out 6; have hfz19_7 := blk_frozen BK186.out 7))
              go_ret
              exact ⟨by first | rfl | (simp [errW_none, errW_some] <;> rfl) | (simp [*, errW_none, errW_some] <;> rfl), by repeat (first | (with_reducible first | exact HB.out | apply below_alloc | apply pw_below_drewN | apply below_drew1 | refine below_set ?_ GE186.out) | exact HB.out)⟩
            · rw [if_neg c17] at H
              have c17b0 : decide (a0_5 < 1) = false := decide_eq_false c17
              clear c17
              by_cases c20 : a0_5 > 80
              · rw [if_pos c20] at H
                have c20b0 : decide (80 < a0_5) = true := decide_eq_true c20
                clear c20
                obtain rfl := Option.some.inj H
                simp only [Option.some.injEq, Prod.mk.injEq] at H
                obtain ⟨rfl⟩ := H
                go_enter Tryd.func15, Tryd.ntmps15
                go_wp2_with (first | ((with_reducible refine gate_dst (N := 1) rfl ?_); refine box_event ?hg (N := 1) ?hd (cs := #[.string a0_0, .int .i64 a0_1, .int .i64 a0_2, .int .i64 a0_3, .int .i64 a0_4, .int .i64 a0_5, .int .i64 a0_6, .int .i64 a0_7]) (t := 23) ?hr ?_; (case hd => rfl); (case hg => rfl); (case hr => first | (go_simp; done) | (go_simp; rfl)); intro gb186 hg w21 hbox hb; have n0_ := Aside0.mk (below_step (by repeat (first | (with_reducible first | exact HB.out | apply below_alloc | apply pw_below_drewN | apply below_drew1) | exact HB.out)) hb); have n1_ := Aside0.mk (hbox); have n2_ := Aside0.mk ((by rw [hg]; exact (below_size (by repeat (first | (with_reducible first | exact HB.out | apply below_alloc | apply pw_below_drewN | apply below_drew1) | exact HB.out))) : w.heap.size ≤ gb186)); have n3_ := Aside0.mk ((by rw [hg]; exact (below_size (by repeat (first | (with_reducible first | exact HB.out | apply below_alloc | apply pw_below_drewN | apply below_drew1) | exact HB.out))) : w.heap.size ≤ gb186)); clear HB; have HB := n0_; have BK186 := n1_; have GW186 := n2_; have GE186 := n3_; clear n0_ n1_ n2_ n3_; clear hb hbox hg; have hcz22_0 : w21.cell? ⟨gb186, 0, none⟩ = some (.string a0_0) := (blk_cell BK186.out 0).trans rfl; have hcz22_1 : w21.cell? ⟨gb186, 1, none⟩ = some (.int .i64 a0_1) := (blk_cell BK186.out 1).trans rfl; have hcz22_2 : w21.cell? ⟨gb186, 2, none⟩ = some (.int .i64 a0_2) := (blk_cell BK186.out 2).trans rfl; have hcz22_3 : w21.cell? ⟨gb186, 3, none⟩ = some (.int .i64 a0_3) := (blk_cell BK186.out 3).trans rfl; have hcz22_4 : w21.cell? ⟨gb186, 4, none⟩ = some (.int .i64 a0_4) := (blk_cell BK186.out 4).trans rfl; have hcz22_5 : w21.cell? ⟨gb186, 5, none⟩ = some (.int .i64 a0_5) := (blk_cell BK186.out 5).trans rfl; have hcz22_6 : w21.cell? ⟨gb186, 6, none⟩ = some (.int .i64 a0_6) := (blk_cell BK186.out 6).trans rfl; have hcz22_7 : w21.cell? ⟨gb186, 7, none⟩ = some (.int .i64 a0_7) := (blk_cell BK186.out 7).trans rfl; have hfz22_0 := blk_frozen BK186.out 0; have hfz22_1 := blk_frozen BK186.out 1; have hfz22_2 := blk_frozen BK186.out 2; have hfz22_3 := blk_frozen BK186.out 3; have hfz22_4 := blk_frozen BK186.out 4; have hfz22_5 := blk_frozen BK186.out 5; have hfz22_6 := blk_frozen BK186.out 6; have hfz22_7 := blk_frozen BK186.out 7))
                go_ret
                exact ⟨by first | rfl | (simp [errW_none, errW_some] <;> rfl) | (simp [*, errW_none, errW_some] <;> rfl), by repeat (first | (with_reducible first | exact HB.out | apply below_alloc | apply pw_below_drewN | apply below_drew1 | refine below_set ?_ GE186.out) | exact HB.out)⟩
              · rw [if_neg c20] at H
                have c20b0 : decide (80 < a0_5) = false := decide_eq_false c20
                clear c20
                by_cases c23 : a0_6 = 0
                · rw [if_pos c23] at H
                  have c23b0 : (a0_6 == 0) = true := beq_iff_eq.mpr c23
                  have c23b1 : (a0_6 != 0) = false := bne_eq_false_iff_eq.mpr c23
                  clear c23
                  obtain rfl := Option.some.inj H
                  simp only [Option.some.injEq, Prod.mk.injEq] at H
                  obtain ⟨rfl⟩ := H
                  go_enter Tryd.func15, Tryd.ntmps15
                  go_wp2_with (first | ((with_reducible refine gate_dst (N := 1) rfl ?_); refine box_event ?hg (N := 1) ?hd (cs := #[.string a0_0, .int .i64 a0_1, .int .i64 a0_2, .int .i64 a0_3, .int .i64 a0_4, .int .i64 a0_5, .int .i64 a0_6, .int .i64 a0_7]) (t := 23) ?hr ?_; (case hd => rfl); (case hg => rfl); (case hr => first | (go_simp; done) | (go_simp; rfl)); intro gb186 hg w24 hbox hb; have n0_ := Aside0.mk (below_step (by repeat (first | (with_reducible first | exact HB.out | apply below_alloc | apply pw_below_drewN | apply below_drew1) | exact HB.out)) hb); have n1_ := Aside0.mk (hbox); have n2_ := Aside0.mk ((by rw [hg]; exact (below_size (by repeat (first | (with_reducible first | exact HB.out | apply below_alloc | apply pw_below_drewN | apply below_drew1) | exact HB.out))) : w.heap.size ≤ gb186)); have n3_ := Aside0.mk ((by rw [hg]; exact (below_size (by repeat (first | (with_reducible first | exact HB.out | apply below_alloc | apply pw_below_drewN | apply below_drew1) | exact HB.out))) : w.heap.size ≤ gb186)); clear HB; have HB := n0_; have BK186 := n1_; have GW186 := n2_; have GE186 := n3_; clear n0_ n1_ n2_ n3_; clear hb hbox hg; have hcz25_0 : w24.cell? ⟨gb186, 0, none⟩ = some (.string a0_0) := (blk_cell BK186.out 0).trans rfl; have hcz25_1 : w24.cell? ⟨gb186, 1, none⟩ = some (.int .i64 a0_1) := (blk_cell BK186.out 1).trans rfl; have hcz25_2 : w24.cell? ⟨gb186, 2, none⟩ = some (.int .i64 a0_2) := (blk_cell BK186.out 2).trans rfl; have hcz25_3 : w24.cell? ⟨gb186, 3, none⟩ = some (.int .i64 a0_3) := (blk_cell BK186.out 3).trans rfl; have hcz25_4 : w24.cell? ⟨gb186, 4, none⟩ = some (.int .i64 a0_4) := (blk_cell BK186.out 4).trans rfl; have hcz25_5 : w24.cell? ⟨gb186, 5, none⟩ = some (.int .i64 a0_5) := (blk_cell BK186.out 5).trans rfl; have hcz25_6 : w24.cell? ⟨gb186, 6, none⟩ = some (.int .i64 a0_6) := (blk_cell BK186.out 6).trans rfl; have hcz25_7 : w24.cell? ⟨gb186, 7, none⟩ = some (.int .i64 a0_7) := (blk_cell BK186.out 7).trans rfl; have hfz25_0 := blk_frozen BK186.out 0; have hfz25_1 := blk_frozen BK186.out 1; have hfz25_2 := blk_frozen BK186.out 2; have hfz25_3 := blk_frozen BK186.out 3; have hfz25_4 := blk_frozen BK186.out 4; have hfz25_5 := blk_frozen BK186.out 5; have hfz25_6 := blk_frozen BK186.out 6; have hfz25_7 := blk_frozen BK186.out 7))
                  go_ret
                  exact ⟨by first | rfl | (simp [errW_none, errW_some] <;> rfl) | (simp [*, errW_none, errW_some] <;> rfl), by repeat (first | (with_reducible first | exact HB.out | apply below_alloc | apply pw_below_drewN | apply below_drew1 | refine below_set ?_ GE186.out) | exact HB.out)⟩
                · rw [if_neg c23] at H
                  have c23b0 : (a0_6 == 0) = false := beq_eq_false_iff_ne.mpr c23
                  have c23b1 : (a0_6 != 0) = true := bne_iff_ne.mpr c23
                  by_cases c26 : a0_6 ≥ a0_3
                  · rw [if_pos c26] at H
                    have c26b0 : decide (a0_3 ≤ a0_6) = true := decide_eq_true c26
                    clear c26
                    obtain rfl := Option.some.inj H
                    simp only [Option.some.injEq, Prod.mk.injEq] at H
                    obtain ⟨rfl⟩ := H
                    go_enter Tryd.func15, Tryd.ntmps15
                    go_wp2_with (first | ((with_reducible refine gate_dst (N := 1) rfl ?_); refine box_event ?hg (N := 1) ?hd (cs := #[.string a0_0, .int .i64 a0_1, .int .i64 a0_2, .int .i64 a0_3, .int .i64 a0_4, .int .i64 a0_5, .int .i64 a0_6, .int .i64 a0_7]) (t := 23) ?hr ?_; (case hd => rfl); (case hg => rfl); (case hr => first | (go_simp; done) | (go_simp; rfl)); intro gb186 hg w27 hbox hb; have n0_ := Aside0.mk (below_step (by repeat (first | (with_reducible first | exact HB.out | apply below_alloc | apply pw_below_drewN | apply below_drew1) | exact HB.out)) hb); have n1_ := Aside0.mk (hbox); have n2_ := Aside0.mk ((by rw [hg]; exact (below_size (by repeat (first | (with_reducible first | exact HB.out | apply below_alloc | apply pw_below_drewN | apply below_drew1) | exact HB.out))) : w.heap.size ≤ gb186)); have n3_ := Aside0.mk ((by rw [hg]; exact (below_size (by repeat (first | (with_reducible first | exact HB.out | apply below_alloc | apply pw_below_drewN | apply below_drew1) | exact HB.out))) : w.heap.size ≤ gb186)); clear HB; have HB := n0_; have BK186 := n1_; have GW186 := n2_; have GE186 := n3_; clear n0_ n1_ n2_ n3_; clear hb hbox hg; have hcz28_0 : w27.cell? ⟨gb186, 0, none⟩ = some (.string a0_0) := (blk_cell BK186.out 0).trans rfl; have hcz28_1 : w27.cell? ⟨gb186, 1, none⟩ = some (.int .i64 a0_1) := (blk_cell BK186.out 1).trans rfl; have hcz28_2 : w27.cell? ⟨gb186, 2, none⟩ = some (.int .i64 a0_2) := (blk_cell BK186.out 2).trans rfl; have hcz28_3 : w27.cell? ⟨gb186, 3, none⟩ = some (.int .i64 a0_3) := (blk_cell BK186.out 3).trans rfl; have hcz28_4 : w27.cell? ⟨gb186, 4, none⟩ = some (.int .i64 a0_4) := (blk_cell BK186.out 4).trans rfl; have hcz28_5 : w27.cell? ⟨gb186, 5, none⟩ = some (.int .i64 a0_5) := (blk_cell BK186.out 5).trans rfl; have hcz28_6 : w27.cell? ⟨gb186, 6, none⟩ = some (.int .i64 a0_6) := (blk_cell BK186.out 6).trans rfl; have hcz28_7 : w27.cell? ⟨gb186, 7, none⟩ = some (.int .i64 a0_7) := (blk_cell BK186.out 7).trans rfl; have hfz28_0 := blk_frozen BK186.out 0; have hfz28_1 := blk_frozen BK186.out 1; have hfz28_2 := blk_frozen BK186.out 2; have hfz28_3 := blk_frozen BK186.out 3; have hfz28_4 := blk_frozen BK186.out 4; have hfz28_5 := blk_frozen BK186.out 5; have hfz28_6 := blk_frozen BK186.out 6; have hfz28_7 := blk_frozen BK186.out 7))
                    go_ret
                    exact ⟨by first | rfl | (simp [errW_none, errW_some] <;> rfl) | (simp [*, errW_none, errW_some] <;> rfl), by repeat (first | (with_reducible first | exact HB.out | apply below_alloc | apply pw_below_drewN | apply below_drew1 | refine below_set ?_ GE186.out) | exact HB.out)⟩
                  · rw [if_neg c26] at H
                    have c26b0 : decide (a0_3 ≤ a0_6) = false := decide_eq_false c26
                    clear c26
                    obtain rfl := Option.some.inj H
                    simp only [Option.some.injEq, Prod.mk.injEq] at H
                    obtain ⟨rfl⟩ := H
                    go_enter Tryd.func15, Tryd.ntmps15
                    go_wp2_with (first | ((with_reducible refine gate_dst (N := 1) rfl ?_); refine box_event ?hg (N := 1) ?hd (cs := #[.string a0_0, .int .i64 a0_1, .int .i64 a0_2, .int .i64 a0_3, .int .i64 a0_4, .int .i64 a0_5, .int .i64 a0_6, .int .i64 a0_7]) (t := 23) ?hr ?_; (case hd => rfl); (case hg => rfl); (case hr => first | (go_simp; done) | (go_simp; rfl)); intro gb186 hg w29 hbox hb; have n0_ := Aside0.mk (below_step (by repeat (first | (with_reducible first | exact HB.out | apply below_alloc | apply pw_below_drewN | apply below_drew1) | exact HB.out)) hb); have n1_ := Aside0.mk (hbox); have n2_ := Aside0.mk ((by rw [hg]; exact (below_size (by repeat (first | (with_reducible first | exact HB.out | apply below_alloc | apply pw_below_drewN | apply below_drew1) | exact HB.out))) : w.heap.size ≤ gb186)); have n3_ := Aside0.mk ((by rw [hg]; exact (below_size (by repeat (first | (with_reducible first | exact HB.out | apply below_alloc | apply pw_below_drewN | apply below_drew1) | exact HB.out))) : w.heap.size ≤ gb186)); clear HB; have HB := n0_; have BK186 := n1_; have GW186 := n2_; have GE186 := n3_; clear n0_ n1_ n2_ n3_; clear hb hbox hg; have hcz30_0 : w29.cell? ⟨gb186, 0, none⟩ = some (.string a0_0) := (blk_cell BK186.out 0).trans rfl; have hcz30_1 : w29.cell? ⟨gb186, 1, none⟩ = some (.int .i64 a0_1) := (blk_cell BK186.out 1).trans rfl; have hcz30_2 : w29.cell? ⟨gb186, 2, none⟩ = some (.int .i64 a0_2) := (blk_cell BK186.out 2).trans rfl; have hcz30_3 : w29.cell? ⟨gb186, 3, none⟩ = some (.int .i64 a0_3) := (blk_cell BK186.out 3).trans rfl; have hcz30_4 : w29.cell? ⟨gb186, 4, none⟩ = some (.int .i64 a0_4) := (blk_cell BK186.out 4).trans rfl; have hcz30_5 : w29.cell? ⟨gb186, 5, none⟩ = some (.int .i64 a0_5) := (blk_cell BK186.out 5).trans rfl; have hcz30_6 : w29.cell? ⟨gb186, 6, none⟩ = some (.int .i64 a0_6) := (blk_cell BK186.out 6).trans rfl; have hcz30_7 : w29.cell? ⟨gb186, 7, none⟩ = some (.int .i64 a0_7) := (blk_cell BK186.out 7).trans rfl; have hfz30_0 := blk_frozen BK186.out 0; have hfz30_1 := blk_frozen BK186.out 1; have hfz30_2 := blk_frozen BK186.out 2; have hfz30_3 := blk_frozen BK186.out 3; have hfz30_4 := blk_frozen BK186.out 4; have hfz30_5 := blk_frozen BK186.out 5; have hfz30_6 := blk_frozen BK186.out 6; have hfz30_7 := blk_frozen BK186.out 7))
                    go_ret
                    exact ⟨by first | rfl | (simp [errW_none, errW_some] <;> rfl) | (simp [*, errW_none, errW_some] <;> rfl), by repeat (first | (with_reducible first | exact HB.out | apply below_alloc | apply pw_below_drewN | apply below_drew1 | refine below_set ?_ GE186.out) | exact HB.out)⟩

/-! ### chargeparkref24_Level: function 22 -/
def chargeparkref24_Level.l0 : Nat → Int → Int → Int → ByteArray → Int → Int → Int → Int → Int → Int → Int → Option (Int)
  | 0, _, _, _, _, _, _, _, _, _, _, _ => none
  | k + 1, x1, x5, x6, x188000, x188001, x188002, x188003, x188004, x188005, x188006, x188007 => if x6 ≤ x188004 then (if x6 ≤ x1 then (chargeparkref24_Level.l0 k x1 x6 (wrap64 (x6 + x188005)) x188000 x188001 x188002 x188003 x188004 x188005 x188006 x188007) else (chargeparkref24_Level.l0 k x1 x5 (wrap64 (x6 + x188005)) x188000 x188001 x188002 x188003 x188004 x188005 x188006 x188007)) else (some x5)
def chargeparkref24_Level.f (k : Nat) (a0_0 : ByteArray) (a0_1 : Int) (a0_2 : Int) (a0_3 : Int) (a0_4 : Int) (a0_5 : Int) (a0_6 : Int) (a0_7 : Int) (a1 : Int) : Option (Int) := chargeparkref24_Level.l0 k a1 0 a0_3 a0_0 a0_1 a0_2 a0_3 a0_4 a0_5 a0_6 a0_7
theorem chargeparkref24_Level.mono_l : ∀ k, (∀ y0 y1 y2 y3 y4 y5 y6 y7 y8 y9 y10, LeO (chargeparkref24_Level.l0 k y0 y1 y2 y3 y4 y5 y6 y7 y8 y9 y10) (chargeparkref24_Level.l0 (k + 1) y0 y1 y2 y3 y4 y5 y6 y7 y8 y9 y10))
  | 0 => fun _ _ _ _ _ _ _ _ _ _ _ r h => by simp [chargeparkref24_Level.l0] at h
  | k + 1 => by
    have ih0 := chargeparkref24_Level.mono_l k
    · intro y0 y1 y2 y3 y4 y5 y6 y7 y8 y9 y10
      unfold chargeparkref24_Level.l0
      repeat' first
      | (with_reducible exact ih0 _ _ _ _ _ _ _ _ _ _ _)
      | (with_reducible exact LeO.refl _)
      | (with_reducible exact LeO.none _)
      | (with_reducible refine LeO.ite ?_ ?_)
      | (with_reducible refine LeO.bind ?_ (fun _ => ?_))
      | exact ih0 _ _ _ _ _ _ _ _ _ _ _
      | exact LeO.none _
      | refine LeO.ite ?_ ?_
      | refine LeO.bind ?_ (fun _ => ?_)
theorem chargeparkref24_Level.mono : ∀ a0 a1 a2 a3 a4 a5 a6 a7 a8 k, LeO (chargeparkref24_Level.f k a0 a1 a2 a3 a4 a5 a6 a7 a8) (chargeparkref24_Level.f (k + 1) a0 a1 a2 a3 a4 a5 a6 a7 a8) := by
  intro a0 a1 a2 a3 a4 a5 a6 a7 a8 k
  have ih0 := chargeparkref24_Level.mono_l k
  unfold chargeparkref24_Level.f
  repeat' first
      | (with_reducible exact ih0 _ _ _ _ _ _ _ _ _ _ _)
      | (with_reducible exact LeO.refl _)
      | (with_reducible exact LeO.none _)
      | (with_reducible refine LeO.ite ?_ ?_)
      | (with_reducible refine LeO.bind ?_ (fun _ => ?_))
      | exact ih0 _ _ _ _ _ _ _ _ _ _ _
      | exact LeO.none _
      | refine LeO.ite ?_ ?_
      | refine LeO.bind ?_ (fun _ => ?_)
set_option maxHeartbeats 8000000 in
set_option maxRecDepth 100000 in
theorem chargeparkref24_Level.calls (k : Nat) (a0_0 : ByteArray) (a0_1 : Int) (a0_2 : Int) (a0_3 : Int) (a0_4 : Int) (a0_5 : Int) (a0_6 : Int) (a0_7 : Int) (a1 : Int) (r : Int) (w : World) (h : chargeparkref24_Level.f k a0_0 a0_1 a0_2 a0_3 a0_4 a0_5 a0_6 a0_7 a1 = some r) :
    Calls Tryd.prog 22 #[.agg #[.string a0_0, .int .i64 a0_1, .int .i64 a0_2, .int .i64 a0_3, .int .i64 a0_4, .int .i64 a0_5, .int .i64 a0_6, .int .i64 a0_7], .int .i64 a1] w fun e w' => e = .returned (.int .i64 r) ∧ Below w.heap.size w w' := by
  have hu23 := Tryd.underlying23
  have HB := Aside0.mk (Below.refl w.heap.size w)
  have H : (chargeparkref24_Level.l0 k a1 0 a0_3 a0_0 a0_1 a0_2 a0_3 a0_4 a0_5 a0_6 a0_7) = some r := h
  clear h
  have H' := Aside0.mk H
  clear H
  go_enter Tryd.func22, Tryd.ntmps22
  go_wp2_with (first | ((with_reducible refine gate_dst (N := 2) rfl ?_); refine box_event ?hg (N := 2) ?hd (cs := #[.string a0_0, .int .i64 a0_1, .int .i64 a0_2, .int .i64 a0_3, .int .i64 a0_4, .int .i64 a0_5, .int .i64 a0_6, .int .i64 a0_7]) (t := 23) ?hr ?_; (case hd => rfl); (case hg => rfl); (case hr => first | (go_simp; done) | (go_simp; rfl)); intro gb187 hg w3 hbox hb; have n0_ := Aside0.mk (below_step (by repeat (first | (with_reducible first | exact HB.out | apply below_alloc | apply pw_below_drewN | apply below_drew1) | exact HB.out)) hb); have n1_ := Aside0.mk (hbox); have n2_ := Aside0.mk ((by rw [hg]; exact (below_size (by repeat (first | (with_reducible first | exact HB.out | apply below_alloc | apply pw_below_drewN | apply below_drew1) | exact HB.out))) : w.heap.size ≤ gb187)); have n3_ := Aside0.mk ((by rw [hg]; exact (below_size (by repeat (first | (with_reducible first | exact HB.out | apply below_alloc | apply pw_below_drewN | apply below_drew1) | exact HB.out))) : w.heap.size ≤ gb187)); clear HB; have HB := n0_; have BK187 := n1_; have GW187 := n2_; have GE187 := n3_; clear n0_ n1_ n2_ n3_; clear hb hbox hg; have hcz4_0 : w3.cell? ⟨gb187, 0, none⟩ = some (.string a0_0) := (blk_cell BK187.out 0).trans rfl; have hcz4_1 : w3.cell? ⟨gb187, 1, none⟩ = some (.int .i64 a0_1) := (blk_cell BK187.out 1).trans rfl; have hcz4_2 : w3.cell? ⟨gb187, 2, none⟩ = some (.int .i64 a0_2) := (blk_cell BK187.out 2).trans rfl; have hcz4_3 : w3.cell? ⟨gb187, 3, none⟩ = some (.int .i64 a0_3) := (blk_cell BK187.out 3).trans rfl; have hcz4_4 : w3.cell? ⟨gb187, 4, none⟩ = some (.int .i64 a0_4) := (blk_cell BK187.out 4).trans rfl; have hcz4_5 : w3.cell? ⟨gb187, 5, none⟩ = some (.int .i64 a0_5) := (blk_cell BK187.out 5).trans rfl; have hcz4_6 : w3.cell? ⟨gb187, 6, none⟩ = some (.int .i64 a0_6) := (blk_cell BK187.out 6).trans rfl; have hcz4_7 : w3.cell? ⟨gb187, 7, none⟩ = some (.int .i64 a0_7) := (blk_cell BK187.out 7).trans rfl; have hfz4_0 := blk_frozen BK187.out 0; have hfz4_1 := blk_frozen BK187.out 1; have hfz4_2 := blk_frozen BK187.out 2; have hfz4_3 := blk_frozen BK187.out 3; have hfz4_4 := blk_frozen BK187.out 4; have hfz4_5 := blk_frozen BK187.out 5; have hfz4_6 := blk_frozen BK187.out 6; have hfz4_7 := blk_frozen BK187.out 7))
  go_loopg [5, 6] k (fun kq v5 v6 w' => ∃ (x5_1 : Int) (x6_1 : Int), v5 = .int .i64 x5_1 ∧ v6 = .int .i64 x6_1 ∧ Aside0 (chargeparkref24_Level.l0 kq a1 x5_1 x6_1 a0_0 a0_1 a0_2 a0_3 a0_4 a0_5 a0_6 a0_7 = some r) ∧ Aside0 (kq ≤ k) ∧ Aside0 (w'.heap[gb187]? = some (.cells #[.string a0_0, .int .i64 a0_1, .int .i64 a0_2, .int .i64 a0_3, .int .i64 a0_4, .int .i64 a0_5, .int .i64 a0_6, .int .i64 a0_7] 23 (0, 0))) ∧ Aside0 (Below w.heap.size w w'))
  case atStart => exact ⟨(0), (a0_3), (by first | rfl | (simp; done) | (simp [*]; done)), (by first | rfl | (simp; done) | (simp [*]; done)), H', ⟨Nat.le_refl _⟩, ⟨by (with_reducible repeat (first | refine blk_drewN ?_ _ | refine blk_drew ?_ | refine blk_alloc ?_ _)); exact BK187.out⟩, ⟨by repeat (first | (with_reducible first | exact HB.out | apply below_alloc | apply pw_below_drewN | apply below_drew1 | refine below_set ?_ GE187.out) | exact HB.out)⟩⟩
  case round =>
    clear H'
    try clear c2
    try clear p2
    try clear hcz4_0
    try clear hcz4_1
    try clear hcz4_2
    try clear hcz4_3
    try clear hcz4_4
    try clear hcz4_5
    try clear hcz4_6
    try clear hcz4_7
    try clear hfz4_0
    try clear hfz4_1
    try clear hfz4_2
    try clear hfz4_3
    try clear hfz4_4
    try clear hfz4_5
    try clear hfz4_6
    try clear hfz4_7
    obtain ⟨x5_1, x6_1, rfl, rfl, HA, HK1, BK187, HB⟩ := hrel
    cases gk with
    | zero => exact absurd HA.out (by simp [chargeparkref24_Level.l0])
    | succ k1 =>
      have H := HA.out
      clear HA
      simp only [chargeparkref24_Level.l0] at H
      by_cases c5 : x6_1 ≤ a0_4
      · rw [if_pos c5] at H
        have c5b0 : decide (x6_1 ≤ a0_4) = true := decide_eq_true c5
        clear c5
        by_cases c6 : x6_1 ≤ a1
        · rw [if_pos c6] at H
          have c6b0 : decide (x6_1 ≤ a1) = true := decide_eq_true c6
          clear c6
          have H' := Aside0.mk H
          clear H
          have hcz7_0 : wr.cell? ⟨gb187, 0, none⟩ = some (.string a0_0) := (blk_cell BK187.out 0).trans rfl
          have hcz7_1 : wr.cell? ⟨gb187, 1, none⟩ = some (.int .i64 a0_1) := (blk_cell BK187.out 1).trans rfl
          have hcz7_2 : wr.cell? ⟨gb187, 2, none⟩ = some (.int .i64 a0_2) := (blk_cell BK187.out 2).trans rfl
          have hcz7_3 : wr.cell? ⟨gb187, 3, none⟩ = some (.int .i64 a0_3) := (blk_cell BK187.out 3).trans rfl
          have hcz7_4 : wr.cell? ⟨gb187, 4, none⟩ = some (.int .i64 a0_4) := (blk_cell BK187.out 4).trans rfl
          have hcz7_5 : wr.cell? ⟨gb187, 5, none⟩ = some (.int .i64 a0_5) := (blk_cell BK187.out 5).trans rfl
          have hcz7_6 : wr.cell? ⟨gb187, 6, none⟩ = some (.int .i64 a0_6) := (blk_cell BK187.out 6).trans rfl
          have hcz7_7 : wr.cell? ⟨gb187, 7, none⟩ = some (.int .i64 a0_7) := (blk_cell BK187.out 7).trans rfl
          have hfz7_0 := blk_frozen BK187.out 0
          have hfz7_1 := blk_frozen BK187.out 1
          have hfz7_2 := blk_frozen BK187.out 2
          have hfz7_3 := blk_frozen BK187.out 3
          have hfz7_4 := blk_frozen BK187.out 4
          have hfz7_5 := blk_frozen BK187.out 5
          have hfz7_6 := blk_frozen BK187.out 6
          have hfz7_7 := blk_frozen BK187.out 7
          go_wp2
          go_roundg k1
          case measure => have := HK1.out; omega
          case rel => exact ⟨(x6_1), (wrap64 (x6_1 + a0_5)), (by first | rfl | (simp; done) | (simp [*]; done)), (by first | rfl | (simp; done) | (simp [*]; done)), H', ⟨by have := HK1.out; omega⟩, ⟨by (with_reducible repeat (first | refine blk_drewN ?_ _ | refine blk_drew ?_ | refine blk_alloc ?_ _)); exact BK187.out⟩, ⟨by repeat (first | (with_reducible first | exact HB.out | apply below_alloc | apply pw_below_drewN | apply below_drew1 | refine below_set ?_ GE187.out) | exact HB.out)⟩⟩
        · rw [if_neg c6] at H
          have c6b0 : decide (x6_1 ≤ a1) = false := decide_eq_false c6
          clear c6
          have H' := Aside0.mk H
          clear H
          have hcz8_0 : wr.cell? ⟨gb187, 0, none⟩ = some (.string a0_0) := (blk_cell BK187.out 0).trans rfl
          have hcz8_1 : wr.cell? ⟨gb187, 1, none⟩ = some (.int .i64 a0_1) := (blk_cell BK187.out 1).trans rfl
          have hcz8_2 : wr.cell? ⟨gb187, 2, none⟩ = some (.int .i64 a0_2) := (blk_cell BK187.out 2).trans rfl
          have hcz8_3 : wr.cell? ⟨gb187, 3, none⟩ = some (.int .i64 a0_3) := (blk_cell BK187.out 3).trans rfl
          have hcz8_4 : wr.cell? ⟨gb187, 4, none⟩ = some (.int .i64 a0_4) := (blk_cell BK187.out 4).trans rfl
          have hcz8_5 : wr.cell? ⟨gb187, 5, none⟩ = some (.int .i64 a0_5) := (blk_cell BK187.out 5).trans rfl
          have hcz8_6 : wr.cell? ⟨gb187, 6, none⟩ = some (.int .i64 a0_6) := (blk_cell BK187.out 6).trans rfl
          have hcz8_7 : wr.cell? ⟨gb187, 7, none⟩ = some (.int .i64 a0_7) := (blk_cell BK187.out 7).trans rfl
          have hfz8_0 := blk_frozen BK187.out 0
          have hfz8_1 := blk_frozen BK187.out 1
          have hfz8_2 := blk_frozen BK187.out 2
          have hfz8_3 := blk_frozen BK187.out 3
          have hfz8_4 := blk_frozen BK187.out 4
          have hfz8_5 := blk_frozen BK187.out 5
          have hfz8_6 := blk_frozen BK187.out 6
          have hfz8_7 := blk_frozen BK187.out 7
          go_wp2
          go_roundg k1
          case measure => have := HK1.out; omega
          case rel => exact ⟨(x5_1), (wrap64 (x6_1 + a0_5)), (by first | rfl | (simp; done) | (simp [*]; done)), (by first | rfl | (simp; done) | (simp [*]; done)), H', ⟨by have := HK1.out; omega⟩, ⟨by (with_reducible repeat (first | refine blk_drewN ?_ _ | refine blk_drew ?_ | refine blk_alloc ?_ _)); exact BK187.out⟩, ⟨by repeat (first | (with_reducible first | exact HB.out | apply below_alloc | apply pw_below_drewN | apply below_drew1 | refine below_set ?_ GE187.out) | exact HB.out)⟩⟩
      · rw [if_neg c5] at H
        have c5b0 : decide (x6_1 ≤ a0_4) = false := decide_eq_false c5
        clear c5
        obtain rfl := Option.some.inj H
        simp only [Option.some.injEq, Prod.mk.injEq] at H
        obtain ⟨rfl⟩ := H
        have hcz9_0 : wr.cell? ⟨gb187, 0, none⟩ = some (.string a0_0) := (blk_cell BK187.out 0).trans rfl
        have hcz9_1 : wr.cell? ⟨gb187, 1, none⟩ = some (.int .i64 a0_1) := (blk_cell BK187.out 1).trans rfl
        have hcz9_2 : wr.cell? ⟨gb187, 2, none⟩ = some (.int .i64 a0_2) := (blk_cell BK187.out 2).trans rfl
        have hcz9_3 : wr.cell? ⟨gb187, 3, none⟩ = some (.int .i64 a0_3) := (blk_cell BK187.out 3).trans rfl
        have hcz9_4 : wr.cell? ⟨gb187, 4, none⟩ = some (.int .i64 a0_4) := (blk_cell BK187.out 4).trans rfl
        have hcz9_5 : wr.cell? ⟨gb187, 5, none⟩ = some (.int .i64 a0_5) := (blk_cell BK187.out 5).trans rfl
        have hcz9_6 : wr.cell? ⟨gb187, 6, none⟩ = some (.int .i64 a0_6) := (blk_cell BK187.out 6).trans rfl
        have hcz9_7 : wr.cell? ⟨gb187, 7, none⟩ = some (.int .i64 a0_7) := (blk_cell BK187.out 7).trans rfl
        have hfz9_0 := blk_frozen BK187.out 0
        have hfz9_1 := blk_frozen BK187.out 1
        have hfz9_2 := blk_frozen BK187.out 2
        have hfz9_3 := blk_frozen BK187.out 3
        have hfz9_4 := blk_frozen BK187.out 4
        have hfz9_5 := blk_frozen BK187.out 5
        have hfz9_6 := blk_frozen BK187.out 6
        have hfz9_7 := blk_frozen BK187.out 7
        go_wp2
        go_ret
        exact ⟨by first | rfl | (simp [errW_none, errW_some] <;> rfl) | (simp [*, errW_none, errW_some] <;> rfl), by repeat (first | (with_reducible first | exact HB.out | apply below_alloc | apply pw_below_drewN | apply below_drew1 | refine below_set ?_ GE187.out) | exact HB.out)⟩

end Go.Proofs.YtagphncpdhaklaaDoor.PAll
