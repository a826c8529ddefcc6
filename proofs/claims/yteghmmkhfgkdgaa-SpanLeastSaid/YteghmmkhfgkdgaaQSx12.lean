-- Written by a program of this session (pp.py) over the kit's printer; Lean checks it.
import Derived.Test.YteghmmkhfgkdgaaQSx0
import Derived.Test.YteghmmkhfgkdgaaQSx10
namespace Go.Proofs.Yteghmmkhfgkdgaa.QS
open Go.RowKit Go.Proofs.YteghmmkhfgkdgaaW.PrintWords Go.Proofs.YteghmmkhfgkdgaaW.PrintLast Go.Proofs.YteghmmkhfgkdgaaW.PrintMore
attribute [local go_sem] max2_int min2_int max_two min_two max_three min_three max_four min_four   -- for this text's walks alone
set_option linter.unusedVariables false
set_option linter.unusedSimpArgs false

/-! ### warpwrightref25_Span: function 17 -/
def warpwrightref25_Span.f (a0_0 : Int) (a0_1 : Int) (a0_2 : Int) : Option (Int × Int × Int) := if a0_1 > 2147483648 then ((warpwrightref25_Made.f (Int.tmod a0_0 549755813888) (wrap64 ((Int.tmod a0_0 549755813888) + (wrap64 ((wrap64 ((wrap64 ((wrap64 (Int.tmod a0_1 4096)) + 1)) * 4096)) * (wrap64 (Int.tmod a0_2 4096)))))) (wrap64 ((wrap64 ((wrap64 (Int.tmod a0_1 4096)) + 1)) * 4096))).bind fun bt408 => (some (bt408.1, bt408.2.1, bt408.2.2))) else ((warpwrightref25_Made.f (Int.tmod a0_0 549755813888) (wrap64 ((Int.tmod a0_0 549755813888) + (wrap64 ((wrap64 ((wrap64 (Int.tmod a0_1 4096)) + 1)) * (wrap64 (Int.tmod a0_2 4096)))))) (wrap64 ((wrap64 (Int.tmod a0_1 4096)) + 1))).bind fun bt411 => (some (bt411.1, bt411.2.1, bt411.2.2)))
set_option maxHeartbeats 8000000 in
set_option maxRecDepth 100000 in
theorem warpwrightref25_Span.calls (a0_0 : Int) (a0_1 : Int) (a0_2 : Int) (r1 : Int) (r2 : Int) (r3 : Int) (w : World) (h : warpwrightref25_Span.f a0_0 a0_1 a0_2 = some (r1, r2, r3)) :
  Calls Try.prog 17 #[.agg #[.int .i64 a0_0, .int .u32 a0_1, .int .u16 a0_2]] w fun e w' => e = .returned (.agg #[.int .i64 r1, .int .i64 r2, .int .i64 r3]) ∧ Below w.heap.size w w' := by
 have hu25 := Try.underlying25
 have hu28 := Try.underlying28
 have HB := Aside0.mk (Below.refl w.heap.size w)
 have H : (if a0_1 > 2147483648 then ((warpwrightref25_Made.f (Int.tmod a0_0 549755813888) (wrap64 ((Int.tmod a0_0 549755813888) + (wrap64 ((wrap64 ((wrap64 ((wrap64 (Int.tmod a0_1 4096)) + 1)) * 4096)) * (wrap64 (Int.tmod a0_2 4096)))))) (wrap64 ((wrap64 ((wrap64 (Int.tmod a0_1 4096)) + 1)) * 4096))).bind fun bt408 => (some (bt408.1, bt408.2.1, bt408.2.2))) else ((warpwrightref25_Made.f (Int.tmod a0_0 549755813888) (wrap64 ((Int.tmod a0_0 549755813888) + (wrap64 ((wrap64 ((wrap64 (Int.tmod a0_1 4096)) + 1)) * (wrap64 (Int.tmod a0_2 4096)))))) (wrap64 ((wrap64 (Int.tmod a0_1 4096)) + 1))).bind fun bt411 => (some (bt411.1, bt411.2.1, bt411.2.2)))) = some (r1, r2, r3) := h
 clear h
 by_cases c2 : a0_1 > 2147483648
 ·rw [if_pos c2] at H
  have c2b0 : decide (2147483648 < a0_1) = true := decide_eq_true c2
  clear c2
  replace H := Option.bind_eq_some_iff.mp H
  obtain ⟨⟨t408, t409, t410⟩, A30, H⟩ := H
  replace H : (some (t408, t409, t410)) = some (r1, r2, r3) := H
  have A3 := Aside0.mk A30
  clear A30
  simp only [Option.some.injEq, Prod.mk.injEq] at H
  obtain ⟨rfl, rfl, rfl⟩ := H
  go_enter Try.func17, Try.ntmps17
  go_wp2_with (first | ((with_reducible refine gate_dst (N := 1) rfl ?_); refine box_event ?hg (N := 1) ?hd (cs := #[.int .i64 a0_0, .int .u32 a0_1, .int .u16 a0_2]) (t := 25) ?hr ?_; (case hd => rfl); (case hg => rfl); (case hr => first | (go_simp; done) | (go_simp; rfl)); intro gb406 hg w4 hbox hb; have n0_ := Aside0.mk (below_step (bl_ HB) hb); have n1_ := Aside0.mk (hbox); have n2_ := Aside0.mk ((by rw [hg]; exact (below_size (bl_ HB)) : w.heap.size ≤ gb406)); have n3_ := Aside0.mk ((by rw [hg]; exact (below_size (bl_ HB)) : w.heap.size ≤ gb406)); clear HB; have HB := n0_; have BK406 := n1_; have GW406 := n2_; have GE406 := n3_; clear n0_ n1_ n2_ n3_; clear hb hbox hg) | ((with_reducible refine gate_dst (N := 2) rfl ?_); refine box_event ?hg (N := 2) ?hd (cs := #[.int .i64 0, .int .i64 0, .int .i64 0]) (t := 28) ?hr ?_; (case hd => rfl); (case hg => rfl); (case hr => first | (go_simp; done) | (go_simp; rfl)); intro gb407 hg w5 hbox hb; have n0_ := Aside0.mk (bb_ BK406 hb); have n1_ := Aside0.mk (below_step (bl_ HB) hb); have n2_ := Aside0.mk (hbox); have n3_ := Aside0.mk ((by rw [hg]; exact (below_size (bl_ HB)) : w.heap.size ≤ gb407)); have n4_ := Aside0.mk ((by rw [hg]; exact (below_size (bl_ HB)) : w.heap.size ≤ gb407)); have n5_ := Aside0.mk (nl_ hg BK406); have n6_ := Aside0.mk (ng_ hg BK406); clear BK406; clear HB; have BK406 := n0_; have HB := n1_; have BK407 := n2_; have GW407 := n3_; have GE407 := n4_; have NB406_407 := n5_; have NB407_406 := n6_; clear n0_ n1_ n2_ n3_ n4_ n5_ n6_; clear hb hbox hg; have hnb6 := NB406_407.out; have hnc6 := NB407_406.out; have hcz7_0 : w5.cell? ⟨gb406, 0, none⟩ = some (.int .i64 a0_0) := (blk_cell BK406.out 0).trans rfl; have hcz7_1 : w5.cell? ⟨gb406, 1, none⟩ = some (.int .u32 a0_1) := (blk_cell BK406.out 1).trans rfl; have hcz7_2 : w5.cell? ⟨gb406, 2, none⟩ = some (.int .u16 a0_2) := (blk_cell BK406.out 2).trans rfl; have hfz7_0 := blk_frozen BK406.out 0; have hfz7_1 := blk_frozen BK406.out 1; have hfz7_2 := blk_frozen BK406.out 2) | ((with_reducible refine gate_callee (f := 41) rfl ?_); refine goesL_ (some 28) rfl rfl Try.func41 (by kernel_rfl) rfl #[.int .i64 (Int.tmod a0_0 549755813888), .int .i64 (wrap64 ((Int.tmod a0_0 549755813888) + (wrap64 ((wrap64 ((wrap64 ((wrap64 (Int.tmod a0_1 4096)) + 1)) * 4096)) * (wrap64 (Int.tmod a0_2 4096)))))), .int .i64 (wrap64 ((wrap64 ((wrap64 (Int.tmod a0_1 4096)) + 1)) * 4096))] rfl am_ ?_; (with_reducible refine (warpwrightref25_Made.calls (Int.tmod a0_0 549755813888) (wrap64 ((Int.tmod a0_0 549755813888) + (wrap64 ((wrap64 ((wrap64 ((wrap64 (Int.tmod a0_1 4096)) + 1)) * 4096)) * (wrap64 (Int.tmod a0_2 4096)))))) (wrap64 ((wrap64 ((wrap64 (Int.tmod a0_1 4096)) + 1)) * 4096)) t408 t409 t410 _ A3.out).mono ?_); rintro e w8 ⟨rfl, hb⟩; refine ⟨_, rfl, ?_⟩; have n0_ := Aside0.mk (bb_ BK406 hb); have n1_ := Aside0.mk (bb_ BK407 hb); have n2_ := Aside0.mk (below_step (bl_ HB) hb); clear BK406; clear BK407; clear HB; have BK406 := n0_; have BK407 := n1_; have HB := n2_; clear n0_ n1_ n2_; (try clear hb); (try clear hb2); (try clear hk); (try clear hi); have hcz9_0 : w8.cell? ⟨gb407, 0, none⟩ = some (.int .i64 0) := (blk_cell BK407.out 0).trans rfl; have hcz9_1 : w8.cell? ⟨gb407, 1, none⟩ = some (.int .i64 0) := (blk_cell BK407.out 1).trans rfl; have hcz9_2 : w8.cell? ⟨gb407, 2, none⟩ = some (.int .i64 0) := (blk_cell BK407.out 2).trans rfl; have hfz9_0 := blk_frozen BK407.out 0; have hfz9_1 := blk_frozen BK407.out 1; have hfz9_2 := blk_frozen BK407.out 2))
  refine bodyPost_ret (results_cell_row rfl _ _ gb407 28 #[.int .i64 t408, .int .i64 t409, .int .i64 t410] (0, 0) _ rfl (by (with_reducible repeat (first | refine blk_drewN ?_ _ | refine blk_drew ?_ | refine blk_alloc ?_ _)); refine blk_put (cs := #[.int .i64 t408, .int .i64 t409, .int .i64 0]) ?_ 2 _ rfl; (with_reducible repeat (first | refine blk_drewN ?_ _ | refine blk_drew ?_ | refine blk_alloc ?_ _)); refine blk_put (cs := #[.int .i64 t408, .int .i64 0, .int .i64 0]) ?_ 1 _ rfl; (with_reducible repeat (first | refine blk_drewN ?_ _ | refine blk_drew ?_ | refine blk_alloc ?_ _)); refine blk_put (cs := #[.int .i64 0, .int .i64 0, .int .i64 0]) ?_ 0 _ rfl; (with_reducible repeat (first | refine blk_drewN ?_ _ | refine blk_drew ?_ | refine blk_alloc ?_ _)); exact BK407.out) Try.underlying28 rfl (by kernel_rfl)) rfl ?_
  exact ⟨by first | rfl | (simp [errW_none, errW_some] <;> rfl) | (simp [*, errW_none, errW_some] <;> rfl), by repeat (first | (with_reducible first | exact HB.out | apply below_alloc | apply pw_below_drewN | apply below_drew1 | refine below_set ?_ GE406.out | refine below_set ?_ GE407.out) | exact HB.out)⟩
 ·rw [if_neg c2] at H
  have c2b0 : decide (2147483648 < a0_1) = false := decide_eq_false c2
  clear c2
  replace H := Option.bind_eq_some_iff.mp H
  obtain ⟨⟨t411, t412, t413⟩, A100, H⟩ := H
  replace H : (some (t411, t412, t413)) = some (r1, r2, r3) := H
  have A10 := Aside0.mk A100
  clear A100
  simp only [Option.some.injEq, Prod.mk.injEq] at H
  obtain ⟨rfl, rfl, rfl⟩ := H
  go_enter Try.func17, Try.ntmps17
  go_wp2_with (first | ((with_reducible refine gate_dst (N := 1) rfl ?_); refine box_event ?hg (N := 1) ?hd (cs := #[.int .i64 a0_0, .int .u32 a0_1, .int .u16 a0_2]) (t := 25) ?hr ?_; (case hd => rfl); (case hg => rfl); (case hr => first | (go_simp; done) | (go_simp; rfl)); intro gb406 hg w11 hbox hb; have n0_ := Aside0.mk (below_step (bl_ HB) hb); have n1_ := Aside0.mk (hbox); have n2_ := Aside0.mk ((by rw [hg]; exact (below_size (bl_ HB)) : w.heap.size ≤ gb406)); have n3_ := Aside0.mk ((by rw [hg]; exact (below_size (bl_ HB)) : w.heap.size ≤ gb406)); clear HB; have HB := n0_; have BK406 := n1_; have GW406 := n2_; have GE406 := n3_; clear n0_ n1_ n2_ n3_; clear hb hbox hg) | ((with_reducible refine gate_dst (N := 2) rfl ?_); refine box_event ?hg (N := 2) ?hd (cs := #[.int .i64 0, .int .i64 0, .int .i64 0]) (t := 28) ?hr ?_; (case hd => rfl); (case hg => rfl); (case hr => first | (go_simp; done) | (go_simp; rfl)); intro gb407 hg w12 hbox hb; have n0_ := Aside0.mk (bb_ BK406 hb); have n1_ := Aside0.mk (below_step (bl_ HB) hb); have n2_ := Aside0.mk (hbox); have n3_ := Aside0.mk ((by rw [hg]; exact (below_size (bl_ HB)) : w.heap.size ≤ gb407)); have n4_ := Aside0.mk ((by rw [hg]; exact (below_size (bl_ HB)) : w.heap.size ≤ gb407)); have n5_ := Aside0.mk (nl_ hg BK406); have n6_ := Aside0.mk (ng_ hg BK406); clear BK406; clear HB; have BK406 := n0_; have HB := n1_; have BK407 := n2_; have GW407 := n3_; have GE407 := n4_; have NB406_407 := n5_; have NB407_406 := n6_; clear n0_ n1_ n2_ n3_ n4_ n5_ n6_; clear hb hbox hg; have hnb13 := NB406_407.out; have hnc13 := NB407_406.out; have hcz14_0 : w12.cell? ⟨gb406, 0, none⟩ = some (.int .i64 a0_0) := (blk_cell BK406.out 0).trans rfl; have hcz14_1 : w12.cell? ⟨gb406, 1, none⟩ = some (.int .u32 a0_1) := (blk_cell BK406.out 1).trans rfl; have hcz14_2 : w12.cell? ⟨gb406, 2, none⟩ = some (.int .u16 a0_2) := (blk_cell BK406.out 2).trans rfl; have hfz14_0 := blk_frozen BK406.out 0; have hfz14_1 := blk_frozen BK406.out 1; have hfz14_2 := blk_frozen BK406.out 2) | ((with_reducible refine gate_callee (f := 41) rfl ?_); refine goesL_ (some 28) rfl rfl Try.func41 (by kernel_rfl) rfl #[.int .i64 (Int.tmod a0_0 549755813888), .int .i64 (wrap64 ((Int.tmod a0_0 549755813888) + (wrap64 ((wrap64 ((wrap64 (Int.tmod a0_1 4096)) + 1)) * (wrap64 (Int.tmod a0_2 4096)))))), .int .i64 (wrap64 ((wrap64 (Int.tmod a0_1 4096)) + 1))] rfl am_ ?_; (with_reducible refine (warpwrightref25_Made.calls (Int.tmod a0_0 549755813888) (wrap64 ((Int.tmod a0_0 549755813888) + (wrap64 ((wrap64 ((wrap64 (Int.tmod a0_1 4096)) + 1)) * (wrap64 (Int.tmod a0_2 4096)))))) (wrap64 ((wrap64 (Int.tmod a0_1 4096)) + 1)) t411 t412 t413 _ A10.out).mono ?_); rintro e w15 ⟨rfl, hb⟩; refine ⟨_, rfl, ?_⟩; have n0_ := Aside0.mk (bb_ BK406 hb); have n1_ := Aside0.mk (bb_ BK407 hb); have n2_ := Aside0.mk (below_step (bl_ HB) hb); clear BK406; clear BK407; clear HB; have BK406 := n0_; have BK407 := n1_; have HB := n2_; clear n0_ n1_ n2_; (try clear hb); (try clear hb2); (try clear hk); (try clear hi); have hcz16_0 : w15.cell? ⟨gb407, 0, none⟩ = some (.int .i64 0) := (blk_cell BK407.out 0).trans rfl; have hcz16_1 : w15.cell? ⟨gb407, 1, none⟩ = some (.int .i64 0) := (blk_cell BK407.out 1).trans rfl; have hcz16_2 : w15.cell? ⟨gb407, 2, none⟩ = some (.int .i64 0) := (blk_cell BK407.out 2).trans rfl; have hfz16_0 := blk_frozen BK407.out 0; have hfz16_1 := blk_frozen BK407.out 1; have hfz16_2 := blk_frozen BK407.out 2))
  refine bodyPost_ret (results_cell_row rfl _ _ gb407 28 #[.int .i64 t411, .int .i64 t412, .int .i64 t413] (0, 0) _ rfl (by (with_reducible repeat (first | refine blk_drewN ?_ _ | refine blk_drew ?_ | refine blk_alloc ?_ _)); refine blk_put (cs := #[.int .i64 t411, .int .i64 t412, .int .i64 0]) ?_ 2 _ rfl; (with_reducible repeat (first | refine blk_drewN ?_ _ | refine blk_drew ?_ | refine blk_alloc ?_ _)); refine blk_put (cs := #[.int .i64 t411, .int .i64 0, .int .i64 0]) ?_ 1 _ rfl; (with_reducible repeat (first | refine blk_drewN ?_ _ | refine blk_drew ?_ | refine blk_alloc ?_ _)); refine blk_put (cs := #[.int .i64 0, .int .i64 0, .int .i64 0]) ?_ 0 _ rfl; (with_reducible repeat (first | refine blk_drewN ?_ _ | refine blk_drew ?_ | refine blk_alloc ?_ _)); exact BK407.out) Try.underlying28 rfl (by kernel_rfl)) rfl ?_
  exact ⟨by first | rfl | (simp [errW_none, errW_some] <;> rfl) | (simp [*, errW_none, errW_some] <;> rfl), by repeat (first | (with_reducible first | exact HB.out | apply below_alloc | apply pw_below_drewN | apply below_drew1 | refine below_set ?_ GE406.out | refine below_set ?_ GE407.out) | exact HB.out)⟩

/-! ### warpwrightref25_Size: function 28 -/
def warpwrightref25_Size.f (a0_0 : Int) (a0_1 : Int) (a0_2 : Int) : Option (Int) := if a0_2 = 0 then (some 1) else (some (wrap64 ((wrap64 (Int.tdiv (wrap64 (a0_1 - a0_0)) a0_2)) + 1)))
set_option maxHeartbeats 8000000 in
set_option maxRecDepth 100000 in
theorem warpwrightref25_Size.calls (a0_0 : Int) (a0_1 : Int) (a0_2 : Int) (r : Int) (w : World) (h : warpwrightref25_Size.f a0_0 a0_1 a0_2 = some r) :
  Calls Try.prog 28 #[.agg #[.int .i64 a0_0, .int .i64 a0_1, .int .i64 a0_2]] w fun e w' => e = .returned (.int .i64 r) ∧ Below w.heap.size w w' := by
 have hu28 := Try.underlying28
 have HB := Aside0.mk (Below.refl w.heap.size w)
 have H : (if a0_2 = 0 then (some 1) else (some (wrap64 ((wrap64 (Int.tdiv (wrap64 (a0_1 - a0_0)) a0_2)) + 1)))) = some r := h
 clear h
 by_cases c2 : a0_2 = 0
 ·rw [if_pos c2] at H
  have c2b0 : (a0_2 == 0) = true := beq_iff_eq.mpr c2
  have c2b1 : (a0_2 != 0) = false := bne_eq_false_iff_eq.mpr c2
  clear c2
  obtain rfl := Option.some.inj H
  go_enter Try.func28, Try.ntmps28
  go_wp2_with (first | ((with_reducible refine gate_dst (N := 1) rfl ?_); refine box_event ?hg (N := 1) ?hd (cs := #[.int .i64 a0_0, .int .i64 a0_1, .int .i64 a0_2]) (t := 28) ?hr ?_; (case hd => rfl); (case hg => rfl); (case hr => first | (go_simp; done) | (go_simp; rfl)); intro gb414 hg w3 hbox hb; have n0_ := Aside0.mk (below_step (bl_ HB) hb); have n1_ := Aside0.mk (hbox); have n2_ := Aside0.mk ((by rw [hg]; exact (below_size (bl_ HB)) : w.heap.size ≤ gb414)); have n3_ := Aside0.mk ((by rw [hg]; exact (below_size (bl_ HB)) : w.heap.size ≤ gb414)); clear HB; have HB := n0_; have BK414 := n1_; have GW414 := n2_; have GE414 := n3_; clear n0_ n1_ n2_ n3_; clear hb hbox hg; have hcz4_0 : w3.cell? ⟨gb414, 0, none⟩ = some (.int .i64 a0_0) := (blk_cell BK414.out 0).trans rfl; have hcz4_1 : w3.cell? ⟨gb414, 1, none⟩ = some (.int .i64 a0_1) := (blk_cell BK414.out 1).trans rfl; have hcz4_2 : w3.cell? ⟨gb414, 2, none⟩ = some (.int .i64 a0_2) := (blk_cell BK414.out 2).trans rfl; have hfz4_0 := blk_frozen BK414.out 0; have hfz4_1 := blk_frozen BK414.out 1; have hfz4_2 := blk_frozen BK414.out 2))
  go_ret
  exact ⟨by first | rfl | (simp [errW_none, errW_some] <;> rfl) | (simp [*, errW_none, errW_some] <;> rfl), by repeat (first | (with_reducible first | exact HB.out | apply below_alloc | apply pw_below_drewN | apply below_drew1 | refine below_set ?_ GE414.out) | exact HB.out)⟩
 ·rw [if_neg c2] at H
  have c2b0 : (a0_2 == 0) = false := beq_eq_false_iff_ne.mpr c2
  have c2b1 : (a0_2 != 0) = true := bne_iff_ne.mpr c2
  obtain rfl := Option.some.inj H
  go_enter Try.func28, Try.ntmps28
  go_wp2_with (first | ((with_reducible refine gate_dst (N := 1) rfl ?_); refine box_event ?hg (N := 1) ?hd (cs := #[.int .i64 a0_0, .int .i64 a0_1, .int .i64 a0_2]) (t := 28) ?hr ?_; (case hd => rfl); (case hg => rfl); (case hr => first | (go_simp; done) | (go_simp; rfl)); intro gb414 hg w5 hbox hb; have n0_ := Aside0.mk (below_step (bl_ HB) hb); have n1_ := Aside0.mk (hbox); have n2_ := Aside0.mk ((by rw [hg]; exact (below_size (bl_ HB)) : w.heap.size ≤ gb414)); have n3_ := Aside0.mk ((by rw [hg]; exact (below_size (bl_ HB)) : w.heap.size ≤ gb414)); clear HB; have HB := n0_; have BK414 := n1_; have GW414 := n2_; have GE414 := n3_; clear n0_ n1_ n2_ n3_; clear hb hbox hg; have hcz6_0 : w5.cell? ⟨gb414, 0, none⟩ = some (.int .i64 a0_0) := (blk_cell BK414.out 0).trans rfl; have hcz6_1 : w5.cell? ⟨gb414, 1, none⟩ = some (.int .i64 a0_1) := (blk_cell BK414.out 1).trans rfl; have hcz6_2 : w5.cell? ⟨gb414, 2, none⟩ = some (.int .i64 a0_2) := (blk_cell BK414.out 2).trans rfl; have hfz6_0 := blk_frozen BK414.out 0; have hfz6_1 := blk_frozen BK414.out 1; have hfz6_2 := blk_frozen BK414.out 2))
  go_ret
  exact ⟨by first | rfl | (simp [errW_none, errW_some] <;> rfl) | (simp [*, errW_none, errW_some] <;> rfl), by repeat (first | (with_reducible first | exact HB.out | apply below_alloc | apply pw_below_drewN | apply below_drew1 | refine below_set ?_ GE414.out) | exact HB.out)⟩

/-! ### warpwrightlaw25_pick: function 18 -/
def warpwrightlaw25_pick.f (a0_0 : Int) (a0_1 : Int) (a0_2 : Int) (a1 : Int) : Option (Int) := (warpwrightref25_Size.f a0_0 a0_1 a0_2).bind fun t416 => (if t416 = 0 then (none) else (some (wrap64 (a0_0 + (wrap64 (a0_2 * (Int.tmod (wrap64 (a1)) t416)))))))
def warpwrightlaw25_pick.T1 : Bool × List (List Nat × List Nat) := (true, [([], []), ([0], [0]), ([], []), ([2], [2]), ([], []), ([4], [4]), ([], []), ([6], [6]), ([5, 7], [5, 7]), ([3, 8], [3, 8]), ([1, 9], [1, 9]), ([10, 7, 0, 1, 2, 3, 4, 5, 6, 7, 8, 9, 10], [10])])
def warpwrightlaw25_pick.B1 : List Nat := [0, 1, 0, 4, 0, 16, 0, 64, 240, 508, 1023, 2047]
theorem warpwrightlaw25_pick.tab1 : rtab .any (opsOf Try.f18 1) = warpwrightlaw25_pick.T1 := by kernel_rfl
theorem warpwrightlaw25_pick.bits1 : waitsOk warpwrightlaw25_pick.T1.2 warpwrightlaw25_pick.B1 = true := by kernel_rfl
set_option maxHeartbeats 8000000 in
set_option maxRecDepth 100000 in
theorem warpwrightlaw25_pick.calls (a0_0 : Int) (a0_1 : Int) (a0_2 : Int) (a1 : Int) (r : Int) (w : World) (h : warpwrightlaw25_pick.f a0_0 a0_1 a0_2 a1 = some r) :
  Calls Try.prog 18 #[.agg #[.int .i64 a0_0, .int .i64 a0_1, .int .i64 a0_2], .int .u16 a1] w fun e w' => e = .returned (.int .i64 r) ∧ Below w.heap.size w w' := by
 have hu28 := Try.underlying28
 have HB := Aside0.mk (Below.refl w.heap.size w)
 have H : ((warpwrightref25_Size.f a0_0 a0_1 a0_2).bind fun t416 => (if t416 = 0 then (none) else (some (wrap64 (a0_0 + (wrap64 (a0_2 * (Int.tmod (wrap64 (a1)) t416)))))))) = some r := h
 clear h
 replace H := Option.bind_eq_some_iff.mp H
 obtain ⟨t416, A30, H⟩ := H
 replace H : (if t416 = 0 then (none) else (some (wrap64 (a0_0 + (wrap64 (a0_2 * (Int.tmod (wrap64 (a1)) t416))))))) = some r := H
 have A3 := Aside0.mk A30
 clear A30
 by_cases c4 : t416 = 0
 ·rw [if_pos c4] at H
  exact absurd H (by simp)
 ·rw [if_neg c4] at H
  have c4b0 : (t416 == 0) = false := beq_eq_false_iff_ne.mpr c4
  have c4b1 : (t416 != 0) = true := bne_iff_ne.mpr c4
  obtain rfl := Option.some.inj H
  go_enter Try.func18, Try.ntmps18
  try go_wp2_with (first | ((with_reducible refine gate_dst (N := 2) rfl ?_); refine box_event ?hg (N := 2) ?hd (cs := #[.int .i64 a0_0, .int .i64 a0_1, .int .i64 a0_2]) (t := 28) ?hr ?_; (case hd => rfl); (case hg => rfl); (case hr => first | (go_simp; done) | (go_simp; rfl)); intro gb415 hg w5 hbox hb; have n0_ := Aside0.mk (below_step (bl_ HB) hb); have n1_ := Aside0.mk (hbox); have n2_ := Aside0.mk ((by rw [hg]; exact (below_size (bl_ HB)) : w.heap.size ≤ gb415)); have n3_ := Aside0.mk ((by rw [hg]; exact (below_size (bl_ HB)) : w.heap.size ≤ gb415)); clear HB; have HB := n0_; have BK415 := n1_; have GW415 := n2_; have GE415 := n3_; clear n0_ n1_ n2_ n3_; clear hb hbox hg))
  have n0_ := Aside0.mk (blk_drew BK415.out)
  have n1_ := Aside0.mk (below_drew1 HB.out)
  clear BK415
  clear HB
  have BK415 := n0_
  have HB := n1_
  clear n0_ n1_
  refine start_ (n := 12) (S := fun w' => w'.cell? ⟨gb415, 0, none⟩ = some (.int .i64 a0_0) ∧ w'.cell? ⟨gb415, 1, none⟩ = some (.int .i64 a0_1) ∧ w'.cell? ⟨gb415, 2, none⟩ = some (.int .i64 a0_2)) (ds := []) #[false, false, false, false, false, false, false, false, false, false, false, false] (by kernel_rfl) rfl rfl ⟨(blk_cell BK415.out 0).trans rfl, (blk_cell BK415.out 1).trans rfl, (blk_cell BK415.out 2).trans rfl⟩ (fun hHeld => ?_); refine with_tabW warpwrightlaw25_pick.tab1 warpwrightlaw25_pick.bits1 (fun HT_ HW_ => ?_)
  generalize w5.drew = w6 at BK415 HB hHeld ⊢
  refine pure_ (i := 0) (N := some 5) (v := ?_) (a' := ?_) (bm_ 12 1) rfl rfl (any_of HT_.out (by kernel_rfl)) (fun _ _ _ h => h) (Or.inl ⟨by rfl, ?_⟩) ?_ ?_
  rotate_left
  ·intro w'
   go_simp
   with_reducible rfl
  rotate_left
  ·simp only [Act.put, List.setIfInBounds_toArray, List.set_cons_zero, List.set_cons_succ, i64_w, i32_w]
   rfl
  refine pure_ (i := 2) (N := some 7) (v := ?_) (a' := ?_) (bm_ 12 5) rfl rfl (any_of HT_.out (by kernel_rfl)) (fun _ _ _ h => h) (Or.inl ⟨by rfl, ?_⟩) ?_ ?_
  rotate_left
  ·intro w'
   go_simp
   with_reducible rfl
  rotate_left
  ·simp only [Act.put, List.setIfInBounds_toArray, List.set_cons_zero, List.set_cons_succ, i64_w, i32_w]
   rfl
  refine pure_ (i := 4) (N := some 9) (v := ?_) (a' := ?_) (bm_ 12 21) rfl rfl (any_of HT_.out (by kernel_rfl)) (fun _ _ _ h => h) (Or.inl ⟨by rfl, ?_⟩) ?_ ?_
  rotate_left
  ·intro w'
   go_simp
   with_reducible rfl
  rotate_left
  ·simp only [Act.put, List.setIfInBounds_toArray, List.set_cons_zero, List.set_cons_succ, i64_w, i32_w]
   rfl
  refine pure_ (i := 5) (N := some 10) (v := ?_) (a' := ?_) (bm_ 12 53) rfl rfl (any_of HT_.out (by kernel_rfl)) (fun _ _ _ h => h) (Or.inl ⟨by rfl, ?_⟩) ?_ ?_
  rotate_left
  ·intro w'
   go_simp
   with_reducible rfl
  rotate_left
  ·simp only [Act.put, List.setIfInBounds_toArray, List.set_cons_zero, List.set_cons_succ, i64_w, i32_w]
   rfl
  refine take_ (i := 1) (N := some 6) (v := ?_) (a' := ?_) (bm_ 12 55) rfl rfl (take_ofW HT_.out HW_.out (by kernel_rfl)) (fun _ _ _ h => h) (Or.inl ⟨by rfl, ?_⟩) hHeld ?_ ?_
  rotate_left
  ·rintro w' ⟨s0, s1, s2⟩
   go_simp
   with_reducible rfl
  rotate_left
  ·simp only [Act.put, List.setIfInBounds_toArray, List.set_cons_zero, List.set_cons_succ, i64_w, i32_w]
   rfl
  refine take_ (i := 3) (N := some 8) (v := ?_) (a' := ?_) (bm_ 12 63) rfl rfl (take_ofW HT_.out HW_.out (by kernel_rfl)) (fun _ _ _ h => h) (Or.inl ⟨by rfl, ?_⟩) hHeld ?_ ?_
  rotate_left
  ·rintro w' ⟨s0, s1, s2⟩
   go_simp
   with_reducible rfl
  rotate_left
  ·simp only [Act.put, List.setIfInBounds_toArray, List.set_cons_zero, List.set_cons_succ, i64_w, i32_w]
   rfl
  refine take_ (i := 6) (N := some 11) (v := ?_) (a' := ?_) (bm_ 12 127) rfl rfl (take_ofW HT_.out HW_.out (by kernel_rfl)) (fun _ _ _ h => h) (Or.inl ⟨by rfl, ?_⟩) hHeld ?_ ?_
  rotate_left
  ·rintro w' ⟨s0, s1, s2⟩
   go_simp
   with_reducible rfl
  rotate_left
  ·simp only [Act.put, List.setIfInBounds_toArray, List.set_cons_zero, List.set_cons_succ, i64_w, i32_w]
   rfl
  refine one_ (i := 7) (N := some 12) (bm_ 12 255) rfl rfl (one_of HT_.out (by kernel_rfl)) (by decide) (fun K hK => ?_)
  refine goes_ Try.func28 (by kernel_rfl) rfl #[.agg #[.int .i64 a0_0, .int .i64 a0_1, .int .i64 a0_2]] (by rfl) rfl rfl am_ ?_
  with_reducible refine (warpwrightref25_Size.calls a0_0 a0_1 a0_2 t416 _ A3.out).mono ?_
  rintro e w7 ⟨rfl, hb⟩
  refine ⟨_, rfl, ?_⟩
  have n0_ := Aside0.mk (bb_ BK415 hb)
  have n1_ := Aside0.mk (below_step (bl_ HB) hb)
  clear BK415
  clear HB
  have BK415 := n0_
  have HB := n1_
  clear n0_ n1_
  (try clear hb)
  (try clear hb2)
  (try clear hk)
  (try clear hi)
  refine hK.out _ _ ⟨(blk_cell BK415.out 0).trans rfl, (blk_cell BK415.out 1).trans rfl, (blk_cell BK415.out 2).trans rfl⟩ (fun hHeld => ?_)
  clear hK K
  refine norm_ (a' := ?_) ?_ ?_
  rotate_left
  ·show Act.put _ (some 12) _ = _
   simp only [Act.put, List.setIfInBounds_toArray, List.set_cons_zero, List.set_cons_succ, i64_w, i32_w]
   rfl
  refine pure_ (i := 8) (N := some 13) (v := ?_) (a' := ?_) (bm_ 12 511) rfl rfl (any_of HT_.out (by kernel_rfl)) (fun _ _ _ h => h) (Or.inl ⟨by rfl, ?_⟩) ?_ ?_
  rotate_left
  ·intro w'
   go_simp
   with_reducible rfl
  rotate_left
  ·simp only [Act.put, List.setIfInBounds_toArray, List.set_cons_zero, List.set_cons_succ, i64_w, i32_w]
   rfl
  refine pure_ (i := 9) (N := some 14) (v := ?_) (a' := ?_) (bm_ 12 1023) rfl rfl (any_of HT_.out (by kernel_rfl)) (fun _ _ _ h => h) (Or.inl ⟨by rfl, ?_⟩) ?_ ?_
  rotate_left
  ·intro w'
   go_simp
   with_reducible rfl
  rotate_left
  ·simp only [Act.put, List.setIfInBounds_toArray, List.set_cons_zero, List.set_cons_succ, i64_w, i32_w]
   rfl
  refine pure_ (i := 10) (N := some 15) (v := ?_) (a' := ?_) (bm_ 12 2047) rfl rfl (any_of HT_.out (by kernel_rfl)) (fun _ _ _ h => h) (Or.inl ⟨by rfl, ?_⟩) ?_ ?_
  rotate_left
  ·intro w'
   go_simp
   with_reducible rfl
  rotate_left
  ·simp only [Act.put, List.setIfInBounds_toArray, List.set_cons_zero, List.set_cons_succ, i64_w, i32_w]
   rfl
  refine pure_ (i := 11) (N := some 4) (v := ?_) (a' := ?_) (bm_ 12 4095) rfl rfl (any_of HT_.out (by kernel_rfl)) (fun _ _ _ h => h) (Or.inl ⟨by rfl, ?_⟩) ?_ ?_
  rotate_left
  ·intro w'
   go_simp
   with_reducible rfl
  rotate_left
  ·simp only [Act.put, List.setIfInBounds_toArray, List.set_cons_zero, List.set_cons_succ, i64_w, i32_w]
   rfl
  refine done_ (done_of HT_.out (by kernel_rfl)) ?_
  try go_wp2
  go_ret
  exact ⟨by first | rfl | (simp [errW_none, errW_some] <;> rfl) | (simp [*, errW_none, errW_some] <;> rfl), by repeat (first | (with_reducible first | exact HB.out | apply below_alloc | apply pw_below_drewN | apply below_drew1 | refine below_set ?_ GE415.out) | exact HB.out)⟩

/-! ### warpwrightref25_Edge: function 24 -/
def warpwrightref25_Edge.f  : Option (Int) := some 1099511627776
set_option maxHeartbeats 8000000 in
set_option maxRecDepth 100000 in
theorem warpwrightref25_Edge.calls  (r : Int) (w : World) (h : warpwrightref25_Edge.f  = some r) :
  Calls Try.prog 24 #[] w fun e w' => e = .returned (.int .i64 r) ∧ Drawn0 w w' := by
 have H : (some 1099511627776) = some r := h
 clear h
 obtain rfl := Option.some.inj H
 go_enter Try.func24, Try.ntmps24
 go_wp2
 go_ret
 exact ⟨by first | rfl | (simp; done) | (simp [*]; done), by repeat (first | exact Drawn0.refl _ | apply Drawn0.step)⟩

/-! ### warpwrightref25_near: function 44 -/
def warpwrightref25_near.f (a0 : Int) : Option (Bool) := (warpwrightref25_Edge.f).bind fun t417 => (if a0 ≥ (wrap64 (-t417)) then ((warpwrightref25_Edge.f).bind fun t418 => (some (decide (a0 ≤ t418)))) else (some false))
set_option maxHeartbeats 8000000 in
set_option maxRecDepth 100000 in
theorem warpwrightref25_near.calls (a0 : Int) (r : Bool) (w : World) (h : warpwrightref25_near.f a0 = some r) :
  Calls Try.prog 44 #[.int .i64 a0] w fun e w' => e = .returned (.bool r) ∧ Drawn0 w w' := by
 have H : ((warpwrightref25_Edge.f).bind fun t417 => (if a0 ≥ (wrap64 (-t417)) then ((warpwrightref25_Edge.f).bind fun t418 => (some (decide (a0 ≤ t418)))) else (some false))) = some r := h
 clear h
 replace H := Option.bind_eq_some_iff.mp H
 obtain ⟨t417, A20, H⟩ := H
 replace H : (if a0 ≥ (wrap64 (-t417)) then ((warpwrightref25_Edge.f).bind fun t418 => (some (decide (a0 ≤ t418)))) else (some false)) = some r := H
 have A2 := Aside0.mk A20
 clear A20
 by_cases c3 : a0 ≥ (wrap64 (-t417))
 ·rw [if_pos c3] at H
  have c3b0 : decide ((wrap64 (-t417)) ≤ a0) = true := decide_eq_true c3
  clear c3
  replace H := Option.bind_eq_some_iff.mp H
  obtain ⟨t418, A40, H⟩ := H
  replace H : (some (decide (a0 ≤ t418))) = some r := H
  have A4 := Aside0.mk A40
  clear A40
  obtain rfl := Option.some.inj H
  go_enter Try.func44, Try.ntmps44
  go_wp2_with (first | ((with_reducible refine gate_callee (f := 24) rfl ?_); refine goesL_ (some 4) rfl rfl Try.func24 (by kernel_rfl) rfl #[] rfl am_ ?_; (with_reducible refine (warpwrightref25_Edge.calls  t417 _ A2.out).mono ?_); rintro e w' ⟨rfl, ⟨nd, rfl⟩⟩; refine ⟨_, rfl, ?_⟩) | (go_at_call 24; (with_reducible refine (warpwrightref25_Edge.calls  t418 _ A4.out).mono ?_); rintro e w' ⟨rfl, ⟨nd, rfl⟩⟩))
  go_ret
  exact ⟨by first | rfl | (simp; done) | (simp [*]; done), by repeat (first | exact Drawn0.refl _ | apply Drawn0.step)⟩
 ·rw [if_neg c3] at H
  have c3b0 : decide ((wrap64 (-t417)) ≤ a0) = false := decide_eq_false c3
  clear c3
  obtain rfl := Option.some.inj H
  go_enter Try.func44, Try.ntmps44
  go_wp2_with (first | ((with_reducible refine gate_callee (f := 24) rfl ?_); refine goesL_ (some 4) rfl rfl Try.func24 (by kernel_rfl) rfl #[] rfl am_ ?_; (with_reducible refine (warpwrightref25_Edge.calls  t417 _ A2.out).mono ?_); rintro e w' ⟨rfl, ⟨nd, rfl⟩⟩; refine ⟨_, rfl, ?_⟩))
  go_ret
  exact ⟨by first | rfl | (simp; done) | (simp [*]; done), by repeat (first | exact Drawn0.refl _ | apply Drawn0.step)⟩

/-! ### warpwrightref25_Valid: function 19 -/
def warpwrightref25_Valid.j0 : Nat → Bool → Int → Int → Int → Option (Bool)
 | 0, _, _, _, _ => none
 | k + 1, x19, x420000, x420001, x420002 => if x19 = true then (some false) else (if x420000 = x420001 then (some (x420002 == 0)) else (if x420002 ≥ 1 then (if x420002 = 0 then (none) else (some ((Int.tmod (wrap64 (x420001 - x420000)) x420002) == 0))) else (some false)))
def warpwrightref25_Valid.f (k : Nat) (a0_0 : Int) (a0_1 : Int) (a0_2 : Int) : Option (Bool) := (warpwrightref25_near.f a0_0).bind fun t420 => (if t420 = true then ((warpwrightref25_near.f a0_1).bind fun t421 => (if t421 = true then (warpwrightref25_Valid.j0 k (decide (a0_0 > a0_1)) a0_0 a0_1 a0_2) else (warpwrightref25_Valid.j0 k true a0_0 a0_1 a0_2))) else (warpwrightref25_Valid.j0 k true a0_0 a0_1 a0_2))
theorem warpwrightref25_Valid.mono_l : ∀ k, (∀ y0 y1 y2 y3, LeO (warpwrightref25_Valid.j0 k y0 y1 y2 y3) (warpwrightref25_Valid.j0 (k + 1) y0 y1 y2 y3))
 | 0 => fun _ _ _ _ r h => by simp [warpwrightref25_Valid.j0] at h
 | k + 1 => by
  have ih0 := warpwrightref25_Valid.mono_l k
  ·intro y0 y1 y2 y3
   unfold warpwrightref25_Valid.j0
   repeat' first
   | (with_reducible exact ih0 _ _ _ _)
   | (with_reducible exact LeO.refl _)
   | (with_reducible exact LeO.none _)
   | (with_reducible refine LeO.ite ?_ ?_)
   | (with_reducible refine LeO.bind ?_ (fun _ => ?_))
   | exact ih0 _ _ _ _
   | exact LeO.none _
   | refine LeO.ite ?_ ?_
   | refine LeO.bind ?_ (fun _ => ?_)
theorem warpwrightref25_Valid.mono : ∀ a0 a1 a2 k, LeO (warpwrightref25_Valid.f k a0 a1 a2) (warpwrightref25_Valid.f (k + 1) a0 a1 a2) := by
 intro a0 a1 a2 k
 have ih0 := warpwrightref25_Valid.mono_l k
 unfold warpwrightref25_Valid.f
 repeat' first
   | (with_reducible exact ih0 _ _ _ _)
   | (with_reducible exact LeO.refl _)
   | (with_reducible exact LeO.none _)
   | (with_reducible refine LeO.ite ?_ ?_)
   | (with_reducible refine LeO.bind ?_ (fun _ => ?_))
   | exact ih0 _ _ _ _
   | exact LeO.none _
   | refine LeO.ite ?_ ?_
   | refine LeO.bind ?_ (fun _ => ?_)
set_option maxHeartbeats 8000000 in
set_option maxRecDepth 100000 in
theorem warpwrightref25_Valid.calls (k : Nat) (a0_0 : Int) (a0_1 : Int) (a0_2 : Int) (r : Bool) (w : World) (h : warpwrightref25_Valid.f k a0_0 a0_1 a0_2 = some r) :
  Calls Try.prog 19 #[.agg #[.int .i64 a0_0, .int .i64 a0_1, .int .i64 a0_2]] w fun e w' => e = .returned (.bool r) ∧ Below w.heap.size w w' := by
 have hu28 := Try.underlying28
 have HB := Aside0.mk (Below.refl w.heap.size w)
 have H : ((warpwrightref25_near.f a0_0).bind fun t420 => (if t420 = true then ((warpwrightref25_near.f a0_1).bind fun t421 => (if t421 = true then (warpwrightref25_Valid.j0 k (decide (a0_0 > a0_1)) a0_0 a0_1 a0_2) else (warpwrightref25_Valid.j0 k true a0_0 a0_1 a0_2))) else (warpwrightref25_Valid.j0 k true a0_0 a0_1 a0_2))) = some r := h
 clear h
 have HC2 := Aside0.mk H
 clear H
 go_enter Try.func19, Try.ntmps19
 go_upto_region 1 with (first | ((with_reducible refine gate_dst (N := 1) rfl ?_); refine box_event ?hg (N := 1) ?hd (cs := #[.int .i64 a0_0, .int .i64 a0_1, .int .i64 a0_2]) (t := 28) ?hr ?_; (case hd => rfl); (case hg => rfl); (case hr => first | (go_simp; done) | (go_simp; rfl)); intro gb419 hg w3 hbox hb; have n0_ := Aside0.mk (below_step (bl_ HB) hb); have n1_ := Aside0.mk (hbox); have n2_ := Aside0.mk ((by rw [hg]; exact (below_size (bl_ HB)) : w.heap.size ≤ gb419)); have n3_ := Aside0.mk ((by rw [hg]; exact (below_size (bl_ HB)) : w.heap.size ≤ gb419)); clear HB; have HB := n0_; have BK419 := n1_; have GW419 := n2_; have GE419 := n3_; clear n0_ n1_ n2_ n3_; clear hb hbox hg))
 (try simp only [Act.put, List.setIfInBounds_toArray, List.set_cons_zero, List.set_cons_succ])
 go_cut [19] (fun v19 wc => ∃ (kq : Nat) (x19_1 : Bool), v19 = .bool x19_1 ∧ Aside0 (warpwrightref25_Valid.j0 kq x19_1 a0_0 a0_1 a0_2 = some r) ∧ Aside0 (kq ≤ k) ∧ Aside0 (wc.heap[gb419]? = some (.cells #[.int .i64 a0_0, .int .i64 a0_1, .int .i64 a0_2] 28 (0, 0))) ∧ Aside0 (Below w.heap.size w wc))
 case first =>
  have H := HC2.out
  clear HC2
  replace H := Option.bind_eq_some_iff.mp H
  obtain ⟨t420, A40, H⟩ := H
  replace H : (if t420 = true then ((warpwrightref25_near.f a0_1).bind fun t421 => (if t421 = true then (warpwrightref25_Valid.j0 k (decide (a0_0 > a0_1)) a0_0 a0_1 a0_2) else (warpwrightref25_Valid.j0 k true a0_0 a0_1 a0_2))) else (warpwrightref25_Valid.j0 k true a0_0 a0_1 a0_2)) = some r := H
  have A4 := Aside0.mk A40
  clear A40
  by_cases c5 : t420 = true
  ·subst c5
   have H1 : ((warpwrightref25_near.f a0_1).bind fun t421 => (if t421 = true then (warpwrightref25_Valid.j0 k (decide (a0_0 > a0_1)) a0_0 a0_1 a0_2) else (warpwrightref25_Valid.j0 k true a0_0 a0_1 a0_2))) = some r := by rw [if_pos rfl] at H; exact H
   clear H
   have H := H1
   clear H1
   replace H := Option.bind_eq_some_iff.mp H
   obtain ⟨t421, A60, H⟩ := H
   replace H : (if t421 = true then (warpwrightref25_Valid.j0 k (decide (a0_0 > a0_1)) a0_0 a0_1 a0_2) else (warpwrightref25_Valid.j0 k true a0_0 a0_1 a0_2)) = some r := H
   have A6 := Aside0.mk A60
   clear A60
   by_cases c7 : t421 = true
   ·subst c7
    have H1 : (warpwrightref25_Valid.j0 k (decide (a0_0 > a0_1)) a0_0 a0_1 a0_2) = some r := by rw [if_pos rfl] at H; exact H
    clear H
    have H := H1
    clear H1
    have H' := Aside0.mk H
    clear H
    have hcz8_0 : w3.cell? ⟨gb419, 0, none⟩ = some (.int .i64 a0_0) := (blk_cell BK419.out 0).trans rfl
    have hcz8_1 : w3.cell? ⟨gb419, 1, none⟩ = some (.int .i64 a0_1) := (blk_cell BK419.out 1).trans rfl
    have hcz8_2 : w3.cell? ⟨gb419, 2, none⟩ = some (.int .i64 a0_2) := (blk_cell BK419.out 2).trans rfl
    have hfz8_0 := blk_frozen BK419.out 0
    have hfz8_1 := blk_frozen BK419.out 1
    have hfz8_2 := blk_frozen BK419.out 2
    go_wp2_with (first | ((with_reducible refine gate_callee (f := 44) rfl ?_); refine goesL_ (some 5) rfl rfl Try.func44 (by kernel_rfl) rfl #[.int .i64 a0_0] rfl am_ ?_; (with_reducible refine (warpwrightref25_near.calls a0_0 true _ A4.out).mono ?_); rintro e w' ⟨rfl, ⟨nd, rfl⟩⟩; refine ⟨_, rfl, ?_⟩) | (go_at_call 44; (with_reducible refine (warpwrightref25_near.calls a0_1 true _ A6.out).mono ?_); rintro e w' ⟨rfl, ⟨nd, rfl⟩⟩))
    go_meet
    case rel => exact ⟨_, (decide (a0_0 > a0_1)), (by first | rfl | (simp; done) | (simp [*]; done)), H', ⟨by first | omega | exact Nat.le_refl _⟩, ⟨by (with_reducible repeat (first | refine blk_drewN ?_ _ | refine blk_drew ?_ | refine blk_alloc ?_ _)); exact BK419.out⟩, ⟨by repeat (first | (with_reducible first | exact HB.out | apply below_alloc | apply pw_below_drewN | apply below_drew1 | refine below_set ?_ GE419.out) | exact HB.out)⟩⟩
   ·replace c7 := Bool.eq_false_iff.mpr c7
    subst c7
    have H1 : (warpwrightref25_Valid.j0 k true a0_0 a0_1 a0_2) = some r := by rw [if_neg (show ¬ (false = true) by decide)] at H; exact H
    clear H
    have H := H1
    clear H1
    have H' := Aside0.mk H
    clear H
    have hcz9_0 : w3.cell? ⟨gb419, 0, none⟩ = some (.int .i64 a0_0) := (blk_cell BK419.out 0).trans rfl
    have hcz9_1 : w3.cell? ⟨gb419, 1, none⟩ = some (.int .i64 a0_1) := (blk_cell BK419.out 1).trans rfl
    have hcz9_2 : w3.cell? ⟨gb419, 2, none⟩ = some (.int .i64 a0_2) := (blk_cell BK419.out 2).trans rfl
    have hfz9_0 := blk_frozen BK419.out 0
    have hfz9_1 := blk_frozen BK419.out 1
    have hfz9_2 := blk_frozen BK419.out 2
    go_wp2_with (first | ((with_reducible refine gate_callee (f := 44) rfl ?_); refine goesL_ (some 5) rfl rfl Try.func44 (by kernel_rfl) rfl #[.int .i64 a0_0] rfl am_ ?_; (with_reducible refine (warpwrightref25_near.calls a0_0 true _ A4.out).mono ?_); rintro e w' ⟨rfl, ⟨nd, rfl⟩⟩; refine ⟨_, rfl, ?_⟩) | (go_at_call 44; (with_reducible refine (warpwrightref25_near.calls a0_1 false _ A6.out).mono ?_); rintro e w' ⟨rfl, ⟨nd, rfl⟩⟩))
    go_meet
    case rel => exact ⟨_, (true), (by first | rfl | (simp; done) | (simp [*]; done)), H', ⟨by first | omega | exact Nat.le_refl _⟩, ⟨by (with_reducible repeat (first | refine blk_drewN ?_ _ | refine blk_drew ?_ | refine blk_alloc ?_ _)); exact BK419.out⟩, ⟨by repeat (first | (with_reducible first | exact HB.out | apply below_alloc | apply pw_below_drewN | apply below_drew1 | refine below_set ?_ GE419.out) | exact HB.out)⟩⟩
  ·replace c5 := Bool.eq_false_iff.mpr c5
   subst c5
   have H1 : (warpwrightref25_Valid.j0 k true a0_0 a0_1 a0_2) = some r := by rw [if_neg (show ¬ (false = true) by decide)] at H; exact H
   clear H
   have H := H1
   clear H1
   have H' := Aside0.mk H
   clear H
   have hcz10_0 : w3.cell? ⟨gb419, 0, none⟩ = some (.int .i64 a0_0) := (blk_cell BK419.out 0).trans rfl
   have hcz10_1 : w3.cell? ⟨gb419, 1, none⟩ = some (.int .i64 a0_1) := (blk_cell BK419.out 1).trans rfl
   have hcz10_2 : w3.cell? ⟨gb419, 2, none⟩ = some (.int .i64 a0_2) := (blk_cell BK419.out 2).trans rfl
   have hfz10_0 := blk_frozen BK419.out 0
   have hfz10_1 := blk_frozen BK419.out 1
   have hfz10_2 := blk_frozen BK419.out 2
   go_wp2_with (first | ((with_reducible refine gate_callee (f := 44) rfl ?_); refine goesL_ (some 5) rfl rfl Try.func44 (by kernel_rfl) rfl #[.int .i64 a0_0] rfl am_ ?_; (with_reducible refine (warpwrightref25_near.calls a0_0 false _ A4.out).mono ?_); rintro e w' ⟨rfl, ⟨nd, rfl⟩⟩; refine ⟨_, rfl, ?_⟩))
   go_meet
   case rel => exact ⟨_, (true), (by first | rfl | (simp; done) | (simp [*]; done)), H', ⟨by first | omega | exact Nat.le_refl _⟩, ⟨by (with_reducible repeat (first | refine blk_drewN ?_ _ | refine blk_drew ?_ | refine blk_alloc ?_ _)); exact BK419.out⟩, ⟨by repeat (first | (with_reducible first | exact HB.out | apply below_alloc | apply pw_below_drewN | apply below_drew1 | refine below_set ?_ GE419.out) | exact HB.out)⟩⟩
 case rest =>
  clear HC2
  try clear c1
  try clear p2
  try clear c4
  try clear c5
  try clear c7
  try clear hcz10_0
  try clear hcz10_1
  try clear hcz10_2
  try clear hcz8_0
  try clear hcz8_1
  try clear hcz8_2
  try clear hcz9_0
  try clear hcz9_1
  try clear hcz9_2
  try clear hfz10_0
  try clear hfz10_1
  try clear hfz10_2
  try clear hfz8_0
  try clear hfz8_1
  try clear hfz8_2
  try clear hfz9_0
  try clear hfz9_1
  try clear hfz9_2
  obtain ⟨kq, x19_1, rfl, HA, HJ1, BK419, HB⟩ := hcut
  cases kq with
  | zero => exact absurd HA.out (by simp [warpwrightref25_Valid.j0])
  | succ kj1 =>
   have H := HA.out
   clear HA
   simp only [warpwrightref25_Valid.j0] at H
   by_cases c11 : x19_1 = true
   ·subst c11
    have H1 : (some false) = some r := by rw [if_pos rfl] at H; exact H
    clear H
    have H := H1
    clear H1
    obtain rfl := Option.some.inj H
    go_wp2
    go_ret
    exact ⟨by first | rfl | (simp [errW_none, errW_some] <;> rfl) | (simp [*, errW_none, errW_some] <;> rfl), by repeat (first | (with_reducible first | exact HB.out | apply below_alloc | apply pw_below_drewN | apply below_drew1 | refine below_set ?_ GE419.out) | exact HB.out)⟩
   ·replace c11 := Bool.eq_false_iff.mpr c11
    subst c11
    have H1 : (if a0_0 = a0_1 then (some (a0_2 == 0)) else (if a0_2 ≥ 1 then (if a0_2 = 0 then (none) else (some ((Int.tmod (wrap64 (a0_1 - a0_0)) a0_2) == 0))) else (some false))) = some r := by rw [if_neg (show ¬ (false = true) by decide)] at H; exact H
    clear H
    have H := H1
    clear H1
    by_cases c12 : a0_0 = a0_1
    ·rw [if_pos c12] at H
     have c12b0 : (a0_0 == a0_1) = true := beq_iff_eq.mpr c12
     have c12b1 : (a0_0 != a0_1) = false := bne_eq_false_iff_eq.mpr c12
     clear c12
     obtain rfl := Option.some.inj H
     have hcz13_0 : wc.cell? ⟨gb419, 0, none⟩ = some (.int .i64 a0_0) := (blk_cell BK419.out 0).trans rfl
     have hcz13_1 : wc.cell? ⟨gb419, 1, none⟩ = some (.int .i64 a0_1) := (blk_cell BK419.out 1).trans rfl
     have hcz13_2 : wc.cell? ⟨gb419, 2, none⟩ = some (.int .i64 a0_2) := (blk_cell BK419.out 2).trans rfl
     have hfz13_0 := blk_frozen BK419.out 0
     have hfz13_1 := blk_frozen BK419.out 1
     have hfz13_2 := blk_frozen BK419.out 2
     go_wp2
     go_ret
     exact ⟨by first | rfl | (simp [errW_none, errW_some] <;> rfl) | (simp [*, errW_none, errW_some] <;> rfl), by repeat (first | (with_reducible first | exact HB.out | apply below_alloc | apply pw_below_drewN | apply below_drew1 | refine below_set ?_ GE419.out) | exact HB.out)⟩
    ·rw [if_neg c12] at H
     have c12b0 : (a0_0 == a0_1) = false := beq_eq_false_iff_ne.mpr c12
     have c12b1 : (a0_0 != a0_1) = true := bne_iff_ne.mpr c12
     by_cases c14 : a0_2 ≥ 1
     ·rw [if_pos c14] at H
      have c14b0 : decide (1 ≤ a0_2) = true := decide_eq_true c14
      clear c14
      by_cases c15 : a0_2 = 0
      ·rw [if_pos c15] at H
       exact absurd H (by simp)
      ·rw [if_neg c15] at H
       have c15b0 : (a0_2 == 0) = false := beq_eq_false_iff_ne.mpr c15
       have c15b1 : (a0_2 != 0) = true := bne_iff_ne.mpr c15
       obtain rfl := Option.some.inj H
       have hcz16_0 : wc.cell? ⟨gb419, 0, none⟩ = some (.int .i64 a0_0) := (blk_cell BK419.out 0).trans rfl
       have hcz16_1 : wc.cell? ⟨gb419, 1, none⟩ = some (.int .i64 a0_1) := (blk_cell BK419.out 1).trans rfl
       have hcz16_2 : wc.cell? ⟨gb419, 2, none⟩ = some (.int .i64 a0_2) := (blk_cell BK419.out 2).trans rfl
       have hfz16_0 := blk_frozen BK419.out 0
       have hfz16_1 := blk_frozen BK419.out 1
       have hfz16_2 := blk_frozen BK419.out 2
       go_wp2
       go_ret
       exact ⟨by first | rfl | (simp [errW_none, errW_some] <;> rfl) | (simp [*, errW_none, errW_some] <;> rfl), by repeat (first | (with_reducible first | exact HB.out | apply below_alloc | apply pw_below_drewN | apply below_drew1 | refine below_set ?_ GE419.out) | exact HB.out)⟩
     ·rw [if_neg c14] at H
      have c14b0 : decide (1 ≤ a0_2) = false := decide_eq_false c14
      clear c14
      obtain rfl := Option.some.inj H
      have hcz17_0 : wc.cell? ⟨gb419, 0, none⟩ = some (.int .i64 a0_0) := (blk_cell BK419.out 0).trans rfl
      have hcz17_1 : wc.cell? ⟨gb419, 1, none⟩ = some (.int .i64 a0_1) := (blk_cell BK419.out 1).trans rfl
      have hcz17_2 : wc.cell? ⟨gb419, 2, none⟩ = some (.int .i64 a0_2) := (blk_cell BK419.out 2).trans rfl
      have hfz17_0 := blk_frozen BK419.out 0
      have hfz17_1 := blk_frozen BK419.out 1
      have hfz17_2 := blk_frozen BK419.out 2
      go_wp2
      go_ret
      exact ⟨by first | rfl | (simp [errW_none, errW_some] <;> rfl) | (simp [*, errW_none, errW_some] <;> rfl), by repeat (first | (with_reducible first | exact HB.out | apply below_alloc | apply pw_below_drewN | apply below_drew1 | refine below_set ?_ GE419.out) | exact HB.out)⟩

/-! ### warpwrightref25_Has: function 27 -/
def warpwrightref25_Has.f (a0_0 : Int) (a0_1 : Int) (a0_2 : Int) (a1 : Int) : Option (Bool) := if a1 < a0_0 then (some false) else (if a1 > a0_1 then (some false) else (if a0_2 = 0 then (some true) else (some ((Int.tmod (wrap64 (a1 - a0_0)) a0_2) == 0))))
set_option maxHeartbeats 8000000 in
set_option maxRecDepth 100000 in
theorem warpwrightref25_Has.calls (a0_0 : Int) (a0_1 : Int) (a0_2 : Int) (a1 : Int) (r : Bool) (w : World) (h : warpwrightref25_Has.f a0_0 a0_1 a0_2 a1 = some r) :
  Calls Try.prog 27 #[.agg #[.int .i64 a0_0, .int .i64 a0_1, .int .i64 a0_2], .int .i64 a1] w fun e w' => e = .returned (.bool r) ∧ Below w.heap.size w w' := by
 have hu28 := Try.underlying28
 have HB := Aside0.mk (Below.refl w.heap.size w)
 have H : (if a1 < a0_0 then (some false) else (if a1 > a0_1 then (some false) else (if a0_2 = 0 then (some true) else (some ((Int.tmod (wrap64 (a1 - a0_0)) a0_2) == 0))))) = some r := h
 clear h
 by_cases c3 : a1 < a0_0
 ·rw [if_pos c3] at H
  have c3b0 : decide (a1 < a0_0) = true := decide_eq_true c3
  clear c3
  obtain rfl := Option.some.inj H
  go_enter Try.func27, Try.ntmps27
  go_wp2_with (first | ((with_reducible refine gate_dst (N := 2) rfl ?_); refine box_event ?hg (N := 2) ?hd (cs := #[.int .i64 a0_0, .int .i64 a0_1, .int .i64 a0_2]) (t := 28) ?hr ?_; (case hd => rfl); (case hg => rfl); (case hr => first | (go_simp; done) | (go_simp; rfl)); intro gb422 hg w4 hbox hb; have n0_ := Aside0.mk (below_step (bl_ HB) hb); have n1_ := Aside0.mk (hbox); have n2_ := Aside0.mk ((by rw [hg]; exact (below_size (bl_ HB)) : w.heap.size ≤ gb422)); have n3_ := Aside0.mk ((by rw [hg]; exact (below_size (bl_ HB)) : w.heap.size ≤ gb422)); clear HB; have HB := n0_; have BK422 := n1_; have GW422 := n2_; have GE422 := n3_; clear n0_ n1_ n2_ n3_; clear hb hbox hg; have hcz5_0 : w4.cell? ⟨gb422, 0, none⟩ = some (.int .i64 a0_0) := (blk_cell BK422.out 0).trans rfl; have hcz5_1 : w4.cell? ⟨gb422, 1, none⟩ = some (.int .i64 a0_1) := (blk_cell BK422.out 1).trans rfl; have hcz5_2 : w4.cell? ⟨gb422, 2, none⟩ = some (.int .i64 a0_2) := (blk_cell BK422.out 2).trans rfl; have hfz5_0 := blk_frozen BK422.out 0; have hfz5_1 := blk_frozen BK422.out 1; have hfz5_2 := blk_frozen BK422.out 2))
  go_ret
  exact ⟨by first | rfl | (simp [errW_none, errW_some] <;> rfl) | (simp [*, errW_none, errW_some] <;> rfl), by repeat (first | (with_reducible first | exact HB.out | apply below_alloc | apply pw_below_drewN | apply below_drew1 | refine below_set ?_ GE422.out) | exact HB.out)⟩
 ·rw [if_neg c3] at H
  have c3b0 : decide (a1 < a0_0) = false := decide_eq_false c3
  clear c3
  by_cases c6 : a1 > a0_1
  ·rw [if_pos c6] at H
   have c6b0 : decide (a0_1 < a1) = true := decide_eq_true c6
   clear c6
   obtain rfl := Option.some.inj H
   go_enter Try.func27, Try.ntmps27
   go_wp2_with (first | ((with_reducible refine gate_dst (N := 2) rfl ?_); refine box_event ?hg (N := 2) ?hd (cs := #[.int .i64 a0_0, .int .i64 a0_1, .int .i64 a0_2]) (t := 28) ?hr ?_; (case hd => rfl); (case hg => rfl); (case hr => first | (go_simp; done) | (go_simp; rfl)); intro gb422 hg w7 hbox hb; have n0_ := Aside0.mk (below_step (bl_ HB) hb); have n1_ := Aside0.mk (hbox); have n2_ := Aside0.mk ((by rw [hg]; exact (below_size (bl_ HB)) : w.heap.size ≤ gb422)); have n3_ := Aside0.mk ((by rw [hg]; exact (below_size (bl_ HB)) : w.heap.size ≤ gb422)); clear HB; have HB := n0_; have BK422 := n1_; have GW422 := n2_; have GE422 := n3_; clear n0_ n1_ n2_ n3_; clear hb hbox hg; have hcz8_0 : w7.cell? ⟨gb422, 0, none⟩ = some (.int .i64 a0_0) := (blk_cell BK422.out 0).trans rfl; have hcz8_1 : w7.cell? ⟨gb422, 1, none⟩ = some (.int .i64 a0_1) := (blk_cell BK422.out 1).trans rfl; have hcz8_2 : w7.cell? ⟨gb422, 2, none⟩ = some (.int .i64 a0_2) := (blk_cell BK422.out 2).trans rfl; have hfz8_0 := blk_frozen BK422.out 0; have hfz8_1 := blk_frozen BK422.out 1; have hfz8_2 := blk_frozen BK422.out 2))
   go_ret
   exact ⟨by first | rfl | (simp [errW_none, errW_some] <;> rfl) | (simp [*, errW_none, errW_some] <;> rfl), by repeat (first | (with_reducible first | exact HB.out | apply below_alloc | apply pw_below_drewN | apply below_drew1 | refine below_set ?_ GE422.out) | exact HB.out)⟩
  ·rw [if_neg c6] at H
   have c6b0 : decide (a0_1 < a1) = false := decide_eq_false c6
   clear c6
   by_cases c9 : a0_2 = 0
   ·rw [if_pos c9] at H
    have c9b0 : (a0_2 == 0) = true := beq_iff_eq.mpr c9
    have c9b1 : (a0_2 != 0) = false := bne_eq_false_iff_eq.mpr c9
    clear c9
    obtain rfl := Option.some.inj H
    go_enter Try.func27, Try.ntmps27
    go_wp2_with (first | ((with_reducible refine gate_dst (N := 2) rfl ?_); refine box_event ?hg (N := 2) ?hd (cs := #[.int .i64 a0_0, .int .i64 a0_1, .int .i64 a0_2]) (t := 28) ?hr ?_; (case hd => rfl); (case hg => rfl); (case hr => first | (go_simp; done) | (go_simp; rfl)); intro gb422 hg w10 hbox hb; have n0_ := Aside0.mk (below_step (bl_ HB) hb); have n1_ := Aside0.mk (hbox); have n2_ := Aside0.mk ((by rw [hg]; exact (below_size (bl_ HB)) : w.heap.size ≤ gb422)); have n3_ := Aside0.mk ((by rw [hg]; exact (below_size (bl_ HB)) : w.heap.size ≤ gb422)); clear HB; have HB := n0_; have BK422 := n1_; have GW422 := n2_; have GE422 := n3_; clear n0_ n1_ n2_ n3_; clear hb hbox hg; have hcz11_0 : w10.cell? ⟨gb422, 0, none⟩ = some (.int .i64 a0_0) := (blk_cell BK422.out 0).trans rfl; have hcz11_1 : w10.cell? ⟨gb422, 1, none⟩ = some (.int .i64 a0_1) := (blk_cell BK422.out 1).trans rfl; have hcz11_2 : w10.cell? ⟨gb422, 2, none⟩ = some (.int .i64 a0_2) := (blk_cell BK422.out 2).trans rfl; have hfz11_0 := blk_frozen BK422.out 0; have hfz11_1 := blk_frozen BK422.out 1; have hfz11_2 := blk_frozen BK422.out 2))
    go_ret
    exact ⟨by first | rfl | (simp [errW_none, errW_some] <;> rfl) | (simp [*, errW_none, errW_some] <;> rfl), by repeat (first | (with_reducible first | exact HB.out | apply below_alloc | apply pw_below_drewN | apply below_drew1 | refine below_set ?_ GE422.out) | exact HB.out)⟩
   ·rw [if_neg c9] at H
    have c9b0 : (a0_2 == 0) = false := beq_eq_false_iff_ne.mpr c9
    have c9b1 : (a0_2 != 0) = true := bne_iff_ne.mpr c9
    obtain rfl := Option.some.inj H
    go_enter Try.func27, Try.ntmps27
    go_wp2_with (first | ((with_reducible refine gate_dst (N := 2) rfl ?_); refine box_event ?hg (N := 2) ?hd (cs := #[.int .i64 a0_0, .int .i64 a0_1, .int .i64 a0_2]) (t := 28) ?hr ?_; (case hd => rfl); (case hg => rfl); (case hr => first | (go_simp; done) | (go_simp; rfl)); intro gb422 hg w12 hbox hb; have n0_ := Aside0.mk (below_step (bl_ HB) hb); have n1_ := Aside0.mk (hbox); have n2_ := Aside0.mk ((by rw [hg]; exact (below_size (bl_ HB)) : w.heap.size ≤ gb422)); have n3_ := Aside0.mk ((by rw [hg]; exact (below_size (bl_ HB)) : w.heap.size ≤ gb422)); clear HB; have HB := n0_; have BK422 := n1_; have GW422 := n2_; have GE422 := n3_; clear n0_ n1_ n2_ n3_; clear hb hbox hg; have hcz13_0 : w12.cell? ⟨gb422, 0, none⟩ = some (.int .i64 a0_0) := (blk_cell BK422.out 0).trans rfl; have hcz13_1 : w12.cell? ⟨gb422, 1, none⟩ = some (.int .i64 a0_1) := (blk_cell BK422.out 1).trans rfl; have hcz13_2 : w12.cell? ⟨gb422, 2, none⟩ = some (.int .i64 a0_2) := (blk_cell BK422.out 2).trans rfl; have hfz13_0 := blk_frozen BK422.out 0; have hfz13_1 := blk_frozen BK422.out 1; have hfz13_2 := blk_frozen BK422.out 2))
    go_ret
    exact ⟨by first | rfl | (simp [errW_none, errW_some] <;> rfl) | (simp [*, errW_none, errW_some] <;> rfl), by repeat (first | (with_reducible first | exact HB.out | apply below_alloc | apply pw_below_drewN | apply below_drew1 | refine below_set ?_ GE422.out) | exact HB.out)⟩

/-! ### warpwrightlaw25_inside: function 20 -/
def warpwrightlaw25_inside.f (a0_0 : Int) (a0_1 : Int) (a0_2 : Int) (a1_0 : Int) (a1_1 : Int) (a1_2 : Int) : Option (Bool) := (warpwrightref25_Has.f a1_0 a1_1 a1_2 a0_0).bind fun t425 => (if t425 = true then ((warpwrightref25_Has.f a1_0 a1_1 a1_2 a0_1).bind fun t426 => (if t426 = true then ((warpwrightref25_Has.f a1_0 a1_1 a1_2 (wrap64 (a0_0 + a0_2))).bind fun t427 => (some t427)) else (some false))) else (some false))
set_option maxHeartbeats 8000000 in
set_option maxRecDepth 100000 in
theorem warpwrightlaw25_inside.calls (a0_0 : Int) (a0_1 : Int) (a0_2 : Int) (a1_0 : Int) (a1_1 : Int) (a1_2 : Int) (r : Bool) (w : World) (h : warpwrightlaw25_inside.f a0_0 a0_1 a0_2 a1_0 a1_1 a1_2 = some r) :
  Calls Try.prog 20 #[.agg #[.int .i64 a0_0, .int .i64 a0_1, .int .i64 a0_2], .agg #[.int .i64 a1_0, .int .i64 a1_1, .int .i64 a1_2]] w fun e w' => e = .returned (.bool r) ∧ Below w.heap.size w w' := by
 have hu28 := Try.underlying28
 have HB := Aside0.mk (Below.refl w.heap.size w)
 have H : ((warpwrightref25_Has.f a1_0 a1_1 a1_2 a0_0).bind fun t425 => (if t425 = true then ((warpwrightref25_Has.f a1_0 a1_1 a1_2 a0_1).bind fun t426 => (if t426 = true then ((warpwrightref25_Has.f a1_0 a1_1 a1_2 (wrap64 (a0_0 + a0_2))).bind fun t427 => (some t427)) else (some false))) else (some false))) = some r := h
 clear h
 replace H := Option.bind_eq_some_iff.mp H
 obtain ⟨t425, A30, H⟩ := H
 replace H : (if t425 = true then ((warpwrightref25_Has.f a1_0 a1_1 a1_2 a0_1).bind fun t426 => (if t426 = true then ((warpwrightref25_Has.f a1_0 a1_1 a1_2 (wrap64 (a0_0 + a0_2))).bind fun t427 => (some t427)) else (some false))) else (some false)) = some r := H
 have A3 := Aside0.mk A30
 clear A30
 by_cases c4 : t425 = true
 ·subst c4
  have H1 : ((warpwrightref25_Has.f a1_0 a1_1 a1_2 a0_1).bind fun t426 => (if t426 = true then ((warpwrightref25_Has.f a1_0 a1_1 a1_2 (wrap64 (a0_0 + a0_2))).bind fun t427 => (some t427)) else (some false))) = some r := by rw [if_pos rfl] at H; exact H
  clear H
  have H := H1
  clear H1
  replace H := Option.bind_eq_some_iff.mp H
  obtain ⟨t426, A50, H⟩ := H
  replace H : (if t426 = true then ((warpwrightref25_Has.f a1_0 a1_1 a1_2 (wrap64 (a0_0 + a0_2))).bind fun t427 => (some t427)) else (some false)) = some r := H
  have A5 := Aside0.mk A50
  clear A50
  by_cases c6 : t426 = true
  ·subst c6
   have H1 : ((warpwrightref25_Has.f a1_0 a1_1 a1_2 (wrap64 (a0_0 + a0_2))).bind fun t427 => (some t427)) = some r := by rw [if_pos rfl] at H; exact H
   clear H
   have H := H1
   clear H1
   replace H := Option.bind_eq_some_iff.mp H
   obtain ⟨t427, A70, H⟩ := H
   replace H : (some t427) = some r := H
   have A7 := Aside0.mk A70
   clear A70
   obtain rfl := Option.some.inj H
   go_enter Try.func20, Try.ntmps20
   go_wp2_with (first | ((with_reducible refine gate_dst (N := 2) rfl ?_); refine box_event ?hg (N := 2) ?hd (cs := #[.int .i64 a0_0, .int .i64 a0_1, .int .i64 a0_2]) (t := 28) ?hr ?_; (case hd => rfl); (case hg => rfl); (case hr => first | (go_simp; done) | (go_simp; rfl)); intro gb423 hg w8 hbox hb; have n0_ := Aside0.mk (below_step (bl_ HB) hb); have n1_ := Aside0.mk (hbox); have n2_ := Aside0.mk ((by rw [hg]; exact (below_size (bl_ HB)) : w.heap.size ≤ gb423)); have n3_ := Aside0.mk ((by rw [hg]; exact (below_size (bl_ HB)) : w.heap.size ≤ gb423)); clear HB; have HB := n0_; have BK423 := n1_; have GW423 := n2_; have GE423 := n3_; clear n0_ n1_ n2_ n3_; clear hb hbox hg) | ((with_reducible refine gate_dst (N := 3) rfl ?_); refine box_event ?hg (N := 3) ?hd (cs := #[.int .i64 a1_0, .int .i64 a1_1, .int .i64 a1_2]) (t := 28) ?hr ?_; (case hd => rfl); (case hg => rfl); (case hr => first | (go_simp; done) | (go_simp; rfl)); intro gb424 hg w9 hbox hb; have n0_ := Aside0.mk (bb_ BK423 hb); have n1_ := Aside0.mk (below_step (bl_ HB) hb); have n2_ := Aside0.mk (hbox); have n3_ := Aside0.mk ((by rw [hg]; exact (below_size (bl_ HB)) : w.heap.size ≤ gb424)); have n4_ := Aside0.mk ((by rw [hg]; exact (below_size (bl_ HB)) : w.heap.size ≤ gb424)); have n5_ := Aside0.mk (nl_ hg BK423); have n6_ := Aside0.mk (ng_ hg BK423); clear BK423; clear HB; have BK423 := n0_; have HB := n1_; have BK424 := n2_; have GW424 := n3_; have GE424 := n4_; have NB423_424 := n5_; have NB424_423 := n6_; clear n0_ n1_ n2_ n3_ n4_ n5_ n6_; clear hb hbox hg; have hnb10 := NB424_423.out; have hnc10 := NB423_424.out; have hcz11_0 : w9.cell? ⟨gb424, 0, none⟩ = some (.int .i64 a1_0) := (blk_cell BK424.out 0).trans rfl; have hcz11_1 : w9.cell? ⟨gb424, 1, none⟩ = some (.int .i64 a1_1) := (blk_cell BK424.out 1).trans rfl; have hcz11_2 : w9.cell? ⟨gb424, 2, none⟩ = some (.int .i64 a1_2) := (blk_cell BK424.out 2).trans rfl; have hfz11_0 := blk_frozen BK424.out 0; have hfz11_1 := blk_frozen BK424.out 1; have hfz11_2 := blk_frozen BK424.out 2; have hcz12_0 : w9.cell? ⟨gb423, 0, none⟩ = some (.int .i64 a0_0) := (blk_cell BK423.out 0).trans rfl; have hcz12_1 : w9.cell? ⟨gb423, 1, none⟩ = some (.int .i64 a0_1) := (blk_cell BK423.out 1).trans rfl; have hcz12_2 : w9.cell? ⟨gb423, 2, none⟩ = some (.int .i64 a0_2) := (blk_cell BK423.out 2).trans rfl; have hfz12_0 := blk_frozen BK423.out 0; have hfz12_1 := blk_frozen BK423.out 1; have hfz12_2 := blk_frozen BK423.out 2) | ((with_reducible refine gate_callee (f := 27) rfl ?_); refine goesL_ (some 8) rfl rfl Try.func27 (by kernel_rfl) rfl #[.agg #[.int .i64 a1_0, .int .i64 a1_1, .int .i64 a1_2], .int .i64 a0_0] rfl am_ ?_; (with_reducible refine (warpwrightref25_Has.calls a1_0 a1_1 a1_2 a0_0 true _ A3.out).mono ?_); rintro e w13 ⟨rfl, hb⟩; refine ⟨_, rfl, ?_⟩; have n0_ := Aside0.mk (bb_ BK423 hb); have n1_ := Aside0.mk (bb_ BK424 hb); have n2_ := Aside0.mk (below_step (bl_ HB) hb); clear BK423; clear BK424; clear HB; have BK423 := n0_; have BK424 := n1_; have HB := n2_; clear n0_ n1_ n2_; (try clear hb); (try clear hb2); (try clear hk); (try clear hi); have hcz14_0 : w13.cell? ⟨gb424, 0, none⟩ = some (.int .i64 a1_0) := (blk_cell BK424.out 0).trans rfl; have hcz14_1 : w13.cell? ⟨gb424, 1, none⟩ = some (.int .i64 a1_1) := (blk_cell BK424.out 1).trans rfl; have hcz14_2 : w13.cell? ⟨gb424, 2, none⟩ = some (.int .i64 a1_2) := (blk_cell BK424.out 2).trans rfl; have hfz14_0 := blk_frozen BK424.out 0; have hfz14_1 := blk_frozen BK424.out 1; have hfz14_2 := blk_frozen BK424.out 2; have hcz15_0 : w13.cell? ⟨gb423, 0, none⟩ = some (.int .i64 a0_0) := (blk_cell BK423.out 0).trans rfl; have hcz15_1 : w13.cell? ⟨gb423, 1, none⟩ = some (.int .i64 a0_1) := (blk_cell BK423.out 1).trans rfl; have hcz15_2 : w13.cell? ⟨gb423, 2, none⟩ = some (.int .i64 a0_2) := (blk_cell BK423.out 2).trans rfl; have hfz15_0 := blk_frozen BK423.out 0; have hfz15_1 := blk_frozen BK423.out 1; have hfz15_2 := blk_frozen BK423.out 2) | (go_at_call 27; (with_reducible refine (warpwrightref25_Has.calls a1_0 a1_1 a1_2 a0_1 true _ A5.out).mono ?_); rintro e w16 ⟨rfl, hb⟩; have n0_ := Aside0.mk (bb_ BK423 hb); have n1_ := Aside0.mk (bb_ BK424 hb); have n2_ := Aside0.mk (below_step (bl_ HB) hb); clear BK423; clear BK424; clear HB; have BK423 := n0_; have BK424 := n1_; have HB := n2_; clear n0_ n1_ n2_; (try clear hb); (try clear hb2); (try clear hk); (try clear hi); have hcz17_0 : w16.cell? ⟨gb424, 0, none⟩ = some (.int .i64 a1_0) := (blk_cell BK424.out 0).trans rfl; have hcz17_1 : w16.cell? ⟨gb424, 1, none⟩ = some (.int .i64 a1_1) := (blk_cell BK424.out 1).trans rfl; have hcz17_2 : w16.cell? ⟨gb424, 2, none⟩ = some (.int .i64 a1_2) := (blk_cell BK424.out 2).trans rfl; have hfz17_0 := blk_frozen BK424.out 0; have hfz17_1 := blk_frozen BK424.out 1; have hfz17_2 := blk_frozen BK424.out 2; have hcz18_0 : w16.cell? ⟨gb423, 0, none⟩ = some (.int .i64 a0_0) := (blk_cell BK423.out 0).trans rfl; have hcz18_1 : w16.cell? ⟨gb423, 1, none⟩ = some (.int .i64 a0_1) := (blk_cell BK423.out 1).trans rfl; have hcz18_2 : w16.cell? ⟨gb423, 2, none⟩ = some (.int .i64 a0_2) := (blk_cell BK423.out 2).trans rfl; have hfz18_0 := blk_frozen BK423.out 0; have hfz18_1 := blk_frozen BK423.out 1; have hfz18_2 := blk_frozen BK423.out 2) | (go_at_call 27; (with_reducible refine (warpwrightref25_Has.calls a1_0 a1_1 a1_2 (wrap64 (a0_0 + a0_2)) t427 _ A7.out).mono ?_); rintro e w19 ⟨rfl, hb⟩; have n0_ := Aside0.mk (bb_ BK423 hb); have n1_ := Aside0.mk (bb_ BK424 hb); have n2_ := Aside0.mk (below_step (bl_ HB) hb); clear BK423; clear BK424; clear HB; have BK423 := n0_; have BK424 := n1_; have HB := n2_; clear n0_ n1_ n2_; (try clear hb); (try clear hb2); (try clear hk); (try clear hi)))
   go_ret
   exact ⟨by first | rfl | (simp [errW_none, errW_some] <;> rfl) | (simp [*, errW_none, errW_some] <;> rfl), by repeat (first | (with_reducible first | exact HB.out | apply below_alloc | apply pw_below_drewN | apply below_drew1 | refine below_set ?_ GE423.out | refine below_set ?_ GE424.out) | exact HB.out)⟩
  ·replace c6 := Bool.eq_false_iff.mpr c6
   subst c6
   have H1 : (some false) = some r := by rw [if_neg (show ¬ (false = true) by decide)] at H; exact H
   clear H
   have H := H1
   clear H1
   obtain rfl := Option.some.inj H
   go_enter Try.func20, Try.ntmps20
   go_wp2_with (first | ((with_reducible refine gate_dst (N := 2) rfl ?_); refine box_event ?hg (N := 2) ?hd (cs := #[.int .i64 a0_0, .int .i64 a0_1, .int .i64 a0_2]) (t := 28) ?hr ?_; (case hd => rfl); (case hg => rfl); (case hr => first | (go_simp; done) | (go_simp; rfl)); intro gb423 hg w20 hbox hb; have n0_ := Aside0.mk (below_step (bl_ HB) hb); have n1_ := Aside0.mk (hbox); have n2_ := Aside0.mk ((by rw [hg]; exact (below_size (bl_ HB)) : w.heap.size ≤ gb423)); have n3_ := Aside0.mk ((by rw [hg]; exact (below_size (bl_ HB)) : w.heap.size ≤ gb423)); clear HB; have HB := n0_; have BK423 := n1_; have GW423 := n2_; have GE423 := n3_; clear n0_ n1_ n2_ n3_; clear hb hbox hg) | ((with_reducible refine gate_dst (N := 3) rfl ?_); refine box_event ?hg (N := 3) ?hd (cs := #[.int .i64 a1_0, .int .i64 a1_1, .int .i64 a1_2]) (t := 28) ?hr ?_; (case hd => rfl); (case hg => rfl); (case hr => first | (go_simp; done) | (go_simp; rfl)); intro gb424 hg w21 hbox hb; have n0_ := Aside0.mk (bb_ BK423 hb); have n1_ := Aside0.mk (below_step (bl_ HB) hb); have n2_ := Aside0.mk (hbox); have n3_ := Aside0.mk ((by rw [hg]; exact (below_size (bl_ HB)) : w.heap.size ≤ gb424)); have n4_ := Aside0.mk ((by rw [hg]; exact (below_size (bl_ HB)) : w.heap.size ≤ gb424)); have n5_ := Aside0.mk (nl_ hg BK423); have n6_ := Aside0.mk (ng_ hg BK423); clear BK423; clear HB; have BK423 := n0_; have HB := n1_; have BK424 := n2_; have GW424 := n3_; have GE424 := n4_; have NB423_424 := n5_; have NB424_423 := n6_; clear n0_ n1_ n2_ n3_ n4_ n5_ n6_; clear hb hbox hg; have hnb22 := NB424_423.out; have hnc22 := NB423_424.out; have hcz23_0 : w21.cell? ⟨gb424, 0, none⟩ = some (.int .i64 a1_0) := (blk_cell BK424.out 0).trans rfl; have hcz23_1 : w21.cell? ⟨gb424, 1, none⟩ = some (.int .i64 a1_1) := (blk_cell BK424.out 1).trans rfl; have hcz23_2 : w21.cell? ⟨gb424, 2, none⟩ = some (.int .i64 a1_2) := (blk_cell BK424.out 2).trans rfl; have hfz23_0 := blk_frozen BK424.out 0; have hfz23_1 := blk_frozen BK424.out 1; have hfz23_2 := blk_frozen BK424.out 2; have hcz24_0 : w21.cell? ⟨gb423, 0, none⟩ = some (.int .i64 a0_0) := (blk_cell BK423.out 0).trans rfl; have hcz24_1 : w21.cell? ⟨gb423, 1, none⟩ = some (.int .i64 a0_1) := (blk_cell BK423.out 1).trans rfl; have hcz24_2 : w21.cell? ⟨gb423, 2, none⟩ = some (.int .i64 a0_2) := (blk_cell BK423.out 2).trans rfl; have hfz24_0 := blk_frozen BK423.out 0; have hfz24_1 := blk_frozen BK423.out 1; have hfz24_2 := blk_frozen BK423.out 2) | ((with_reducible refine gate_callee (f := 27) rfl ?_); refine goesL_ (some 8) rfl rfl Try.func27 (by kernel_rfl) rfl #[.agg #[.int .i64 a1_0, .int .i64 a1_1, .int .i64 a1_2], .int .i64 a0_0] rfl am_ ?_; (with_reducible refine (warpwrightref25_Has.calls a1_0 a1_1 a1_2 a0_0 true _ A3.out).mono ?_); rintro e w25 ⟨rfl, hb⟩; refine ⟨_, rfl, ?_⟩; have n0_ := Aside0.mk (bb_ BK423 hb); have n1_ := Aside0.mk (bb_ BK424 hb); have n2_ := Aside0.mk (below_step (bl_ HB) hb); clear BK423; clear BK424; clear HB; have BK423 := n0_; have BK424 := n1_; have HB := n2_; clear n0_ n1_ n2_; (try clear hb); (try clear hb2); (try clear hk); (try clear hi); have hcz26_0 : w25.cell? ⟨gb424, 0, none⟩ = some (.int .i64 a1_0) := (blk_cell BK424.out 0).trans rfl; have hcz26_1 : w25.cell? ⟨gb424, 1, none⟩ = some (.int .i64 a1_1) := (blk_cell BK424.out 1).trans rfl; have hcz26_2 : w25.cell? ⟨gb424, 2, none⟩ = some (.int .i64 a1_2) := (blk_cell BK424.out 2).trans rfl; have hfz26_0 := blk_frozen BK424.out 0; have hfz26_1 := blk_frozen BK424.out 1; have hfz26_2 := blk_frozen BK424.out 2; have hcz27_0 : w25.cell? ⟨gb423, 0, none⟩ = some (.int .i64 a0_0) := (blk_cell BK423.out 0).trans rfl; have hcz27_1 : w25.cell? ⟨gb423, 1, none⟩ = some (.int .i64 a0_1) := (blk_cell BK423.out 1).trans rfl; have hcz27_2 : w25.cell? ⟨gb423, 2, none⟩ = some (.int .i64 a0_2) := (blk_cell BK423.out 2).trans rfl; have hfz27_0 := blk_frozen BK423.out 0; have hfz27_1 := blk_frozen BK423.out 1; have hfz27_2 := blk_frozen BK423.out 2) | (go_at_call 27; (with_reducible refine (warpwrightref25_Has.calls a1_0 a1_1 a1_2 a0_1 false _ A5.out).mono ?_); rintro e w28 ⟨rfl, hb⟩; have n0_ := Aside0.mk (bb_ BK423 hb); have n1_ := Aside0.mk (bb_ BK424 hb); have n2_ := Aside0.mk (below_step (bl_ HB) hb); clear BK423; clear BK424; clear HB; have BK423 := n0_; have BK424 := n1_; have HB := n2_; clear n0_ n1_ n2_; (try clear hb); (try clear hb2); (try clear hk); (try clear hi)))
   go_ret
   exact ⟨by first | rfl | (simp [errW_none, errW_some] <;> rfl) | (simp [*, errW_none, errW_some] <;> rfl), by repeat (first | (with_reducible first | exact HB.out | apply below_alloc | apply pw_below_drewN | apply below_drew1 | refine below_set ?_ GE423.out | refine below_set ?_ GE424.out) | exact HB.out)⟩
 ·replace c4 := Bool.eq_false_iff.mpr c4
  subst c4
  have H1 : (some false) = some r := by rw [if_neg (show ¬ (false = true) by decide)] at H; exact H
  clear H
  have H := H1
  clear H1
  obtain rfl := Option.some.inj H
  go_enter Try.func20, Try.ntmps20
  go_wp2_with (first | ((with_reducible refine gate_dst (N := 2) rfl ?_); refine box_event ?hg (N := 2) ?hd (cs := #[.int .i64 a0_0, .int .i64 a0_1, .int .i64 a0_2]) (t := 28) ?hr ?_; (case hd => rfl); (case hg => rfl); (case hr => first | (go_simp; done) | (go_simp; rfl)); intro gb423 hg w29 hbox hb; have n0_ := Aside0.mk (below_step (bl_ HB) hb); have n1_ := Aside0.mk (hbox); have n2_ := Aside0.mk ((by rw [hg]; exact (below_size (bl_ HB)) : w.heap.size ≤ gb423)); have n3_ := Aside0.mk ((by rw [hg]; exact (below_size (bl_ HB)) : w.heap.size ≤ gb423)); clear HB; have HB := n0_; have BK423 := n1_; have GW423 := n2_; have GE423 := n3_; clear n0_ n1_ n2_ n3_; clear hb hbox hg) | ((with_reducible refine gate_dst (N := 3) rfl ?_); refine box_event ?hg (N := 3) ?hd (cs := #[.int .i64 a1_0, .int .i64 a1_1, .int .i64 a1_2]) (t := 28) ?hr ?_; (case hd => rfl); (case hg => rfl); (case hr => first | (go_simp; done) | (go_simp; rfl)); intro gb424 hg w30 hbox hb; have n0_ := Aside0.mk (bb_ BK423 hb); have n1_ := Aside0.mk (below_step (bl_ HB) hb); have n2_ := Aside0.mk (hbox); have n3_ := Aside0.mk ((by rw [hg]; exact (below_size (bl_ HB)) : w.heap.size ≤ gb424)); have n4_ := Aside0.mk ((by rw [hg]; exact (below_size (bl_ HB)) : w.heap.size ≤ gb424)); have n5_ := Aside0.mk (nl_ hg BK423); have n6_ := Aside0.mk (ng_ hg BK423); clear BK423; clear HB; have BK423 := n0_; have HB := n1_; have BK424 := n2_; have GW424 := n3_; have GE424 := n4_; have NB423_424 := n5_; have NB424_423 := n6_; clear n0_ n1_ n2_ n3_ n4_ n5_ n6_; clear hb hbox hg; have hnb31 := NB424_423.out; have hnc31 := NB423_424.out; have hcz32_0 : w30.cell? ⟨gb424, 0, none⟩ = some (.int .i64 a1_0) := (blk_cell BK424.out 0).trans rfl; have hcz32_1 : w30.cell? ⟨gb424, 1, none⟩ = some (.int .i64 a1_1) := (blk_cell BK424.out 1).trans rfl; have hcz32_2 : w30.cell? ⟨gb424, 2, none⟩ = some (.int .i64 a1_2) := (blk_cell BK424.out 2).trans rfl; have hfz32_0 := blk_frozen BK424.out 0; have hfz32_1 := blk_frozen BK424.out 1; have hfz32_2 := blk_frozen BK424.out 2; have hcz33_0 : w30.cell? ⟨gb423, 0, none⟩ = some (.int .i64 a0_0) := (blk_cell BK423.out 0).trans rfl; have hcz33_1 : w30.cell? ⟨gb423, 1, none⟩ = some (.int .i64 a0_1) := (blk_cell BK423.out 1).trans rfl; have hcz33_2 : w30.cell? ⟨gb423, 2, none⟩ = some (.int .i64 a0_2) := (blk_cell BK423.out 2).trans rfl; have hfz33_0 := blk_frozen BK423.out 0; have hfz33_1 := blk_frozen BK423.out 1; have hfz33_2 := blk_frozen BK423.out 2) | ((with_reducible refine gate_callee (f := 27) rfl ?_); refine goesL_ (some 8) rfl rfl Try.func27 (by kernel_rfl) rfl #[.agg #[.int .i64 a1_0, .int .i64 a1_1, .int .i64 a1_2], .int .i64 a0_0] rfl am_ ?_; (with_reducible refine (warpwrightref25_Has.calls a1_0 a1_1 a1_2 a0_0 false _ A3.out).mono ?_); rintro e w34 ⟨rfl, hb⟩; refine ⟨_, rfl, ?_⟩; have n0_ := Aside0.mk (bb_ BK423 hb); have n1_ := Aside0.mk (bb_ BK424 hb); have n2_ := Aside0.mk (below_step (bl_ HB) hb); clear BK423; clear BK424; clear HB; have BK423 := n0_; have BK424 := n1_; have HB := n2_; clear n0_ n1_ n2_; (try clear hb); (try clear hb2); (try clear hk); (try clear hi)))
  go_ret
  exact ⟨by first | rfl | (simp [errW_none, errW_some] <;> rfl) | (simp [*, errW_none, errW_some] <;> rfl), by repeat (first | (with_reducible first | exact HB.out | apply below_alloc | apply pw_below_drewN | apply below_drew1 | refine below_set ?_ GE423.out | refine below_set ?_ GE424.out) | exact HB.out)⟩

/-! ### warpwrightref25_Gcd: function 21 -/
mutual
def warpwrightref25_Gcd.j0 : Nat → Int → Int → Option (Int)
 | 0, _, _ => none
 | k + 1, x0, x1 => if x1 < 0 then (warpwrightref25_Gcd.j1 k x0 (wrap64 (-x1))) else (warpwrightref25_Gcd.j1 k x0 x1)
def warpwrightref25_Gcd.j1 : Nat → Int → Int → Option (Int)
 | 0, _, _ => none
 | k + 1, x0, x1 => warpwrightref25_Gcd.l0 k x0 x1
def warpwrightref25_Gcd.l0 : Nat → Int → Int → Option (Int)
 | 0, _, _ => none
 | k + 1, x0, x1 => if x1 = 0 then (some x0) else (warpwrightref25_Gcd.l0 k x1 (Int.tmod x0 x1))
end
def warpwrightref25_Gcd.f (k : Nat) (a0 : Int) (a1 : Int) : Option (Int) := if a0 < 0 then (warpwrightref25_Gcd.j0 k (wrap64 (-a0)) a1) else (warpwrightref25_Gcd.j0 k a0 a1)
theorem warpwrightref25_Gcd.mono_l : ∀ k, (∀ y0 y1, LeO (warpwrightref25_Gcd.j0 k y0 y1) (warpwrightref25_Gcd.j0 (k + 1) y0 y1)) ∧ (∀ y0 y1, LeO (warpwrightref25_Gcd.j1 k y0 y1) (warpwrightref25_Gcd.j1 (k + 1) y0 y1)) ∧ (∀ y0 y1, LeO (warpwrightref25_Gcd.l0 k y0 y1) (warpwrightref25_Gcd.l0 (k + 1) y0 y1))
 | 0 => ⟨fun _ _ r h => by simp [warpwrightref25_Gcd.j0] at h, fun _ _ r h => by simp [warpwrightref25_Gcd.j1] at h, fun _ _ r h => by simp [warpwrightref25_Gcd.l0] at h⟩
 | k + 1 => by
  obtain ⟨ih0, ih1, ih2⟩ := warpwrightref25_Gcd.mono_l k
  refine ⟨?_, ?_, ?_⟩
  ·intro y0 y1
   unfold warpwrightref25_Gcd.j0
   repeat' first
   | (with_reducible exact ih0 _ _)
   | (with_reducible exact ih1 _ _)
   | (with_reducible exact ih2 _ _)
   | (with_reducible exact LeO.refl _)
   | (with_reducible exact LeO.none _)
   | (with_reducible refine LeO.ite ?_ ?_)
   | (with_reducible refine LeO.bind ?_ (fun _ => ?_))
   | exact ih0 _ _
   | exact ih1 _ _
   | exact ih2 _ _
   | exact LeO.none _
   | refine LeO.ite ?_ ?_
   | refine LeO.bind ?_ (fun _ => ?_)
  ·intro y0 y1
   unfold warpwrightref25_Gcd.j1
   repeat' first
   | (with_reducible exact ih0 _ _)
   | (with_reducible exact ih1 _ _)
   | (with_reducible exact ih2 _ _)
   | (with_reducible exact LeO.refl _)
   | (with_reducible exact LeO.none _)
   | (with_reducible refine LeO.ite ?_ ?_)
   | (with_reducible refine LeO.bind ?_ (fun _ => ?_))
   | exact ih0 _ _
   | exact ih1 _ _
   | exact ih2 _ _
   | exact LeO.none _
   | refine LeO.ite ?_ ?_
   | refine LeO.bind ?_ (fun _ => ?_)
  ·intro y0 y1
   unfold warpwrightref25_Gcd.l0
   repeat' first
   | (with_reducible exact ih0 _ _)
   | (with_reducible exact ih1 _ _)
   | (with_reducible exact ih2 _ _)
   | (with_reducible exact LeO.refl _)
   | (with_reducible exact LeO.none _)
   | (with_reducible refine LeO.ite ?_ ?_)
   | (with_reducible refine LeO.bind ?_ (fun _ => ?_))
   | exact ih0 _ _
   | exact ih1 _ _
   | exact ih2 _ _
   | exact LeO.none _
   | refine LeO.ite ?_ ?_
   | refine LeO.bind ?_ (fun _ => ?_)
theorem warpwrightref25_Gcd.mono : ∀ a0 a1 k, LeO (warpwrightref25_Gcd.f k a0 a1) (warpwrightref25_Gcd.f (k + 1) a0 a1) := by
 intro a0 a1 k
 obtain ⟨ih0, ih1, ih2⟩ := warpwrightref25_Gcd.mono_l k
 unfold warpwrightref25_Gcd.f
 repeat' first
   | (with_reducible exact ih0 _ _)
   | (with_reducible exact ih1 _ _)
   | (with_reducible exact ih2 _ _)
   | (with_reducible exact LeO.refl _)
   | (with_reducible exact LeO.none _)
   | (with_reducible refine LeO.ite ?_ ?_)
   | (with_reducible refine LeO.bind ?_ (fun _ => ?_))
   | exact ih0 _ _
   | exact ih1 _ _
   | exact ih2 _ _
   | exact LeO.none _
   | refine LeO.ite ?_ ?_
   | refine LeO.bind ?_ (fun _ => ?_)
set_option maxHeartbeats 8000000 in
set_option maxRecDepth 100000 in
theorem warpwrightref25_Gcd.calls (k : Nat) (a0 : Int) (a1 : Int) (r : Int) (w : World) (h : warpwrightref25_Gcd.f k a0 a1 = some r) :
  Calls Try.prog 21 #[.int .i64 a0, .int .i64 a1] w fun e w' => e = .returned (.int .i64 r) ∧ Drawn0 w w' := by
 have H : (if a0 < 0 then (warpwrightref25_Gcd.j0 k (wrap64 (-a0)) a1) else (warpwrightref25_Gcd.j0 k a0 a1)) = some r := h
 clear h
 have HC3 := Aside0.mk H
 clear H
 go_enter Try.func21, Try.ntmps21
 go_upto_if 6 with (fail)
 repeat (go_quiet (fail); go_upto_if 6 with (fail))
 go_cut [0] (fun v0 wc => ∃ (kq : Nat) (x0_2 : Int), v0 = .int .i64 x0_2 ∧ Aside0 (warpwrightref25_Gcd.j0 kq x0_2 a1 = some r) ∧ Aside0 (kq ≤ k) ∧ Drawn0 w wc)
 case first =>
  have H := HC3.out
  clear HC3
  by_cases c4 : a0 < 0
  ·rw [if_pos c4] at H
   have c4b0 : decide (a0 < 0) = true := decide_eq_true c4
   clear c4
   (first | rw [c4b0] | (simp only [i64_w, i32_w]; rw [c4b0]) | skip)
   have H' := Aside0.mk H
   clear H
   go_wp2
   repeat (go_quiet (fail); try go_wp2)
   go_meet
   case rel => exact ⟨_, (wrap64 (-a0)), (by first | rfl | (simp; done) | (simp [*]; done)), H', ⟨by first | omega | exact Nat.le_refl _⟩, by repeat (first | exact Drawn0.refl _ | apply Drawn0.step)⟩
  ·rw [if_neg c4] at H
   have c4b0 : decide (a0 < 0) = false := decide_eq_false c4
   clear c4
   (first | rw [c4b0] | (simp only [i64_w, i32_w]; rw [c4b0]) | skip)
   have H' := Aside0.mk H
   clear H
   go_wp2
   repeat (go_quiet (fail); try go_wp2)
   go_meet
   case rel => exact ⟨_, (a0), (by first | rfl | (simp; done) | (simp [*]; done)), H', ⟨by first | omega | exact Nat.le_refl _⟩, by repeat (first | exact Drawn0.refl _ | apply Drawn0.step)⟩
 case rest =>
  clear HC3
  try clear c2
  try clear p2
  try clear c4
  try clear c4b0
  obtain ⟨kq, x0_2, rfl, HA, HJ2, ⟨mc2, rfl⟩⟩ := hcut
  cases kq with
  | zero => exact absurd HA.out (by simp [warpwrightref25_Gcd.j0])
  | succ kj2 =>
   have H := HA.out
   clear HA
   simp only [warpwrightref25_Gcd.j0] at H
   have HC5 := Aside0.mk H
   clear H
   go_upto_if 10 with (fail)
   repeat (go_quiet (fail); go_upto_if 10 with (fail))
   go_cut [1] (fun v1 wc => ∃ (kq : Nat) (x1_4 : Int), v1 = .int .i64 x1_4 ∧ Aside0 (warpwrightref25_Gcd.j1 kq x0_2 x1_4 = some r) ∧ Aside0 (kq ≤ kj2) ∧ Drawn0 w wc)
   case first =>
    have H := HC5.out
    clear HC5
    by_cases c6 : a1 < 0
    ·rw [if_pos c6] at H
     have c6b0 : decide (a1 < 0) = true := decide_eq_true c6
     clear c6
     (first | rw [c6b0] | (simp only [i64_w, i32_w]; rw [c6b0]) | skip)
     have H' := Aside0.mk H
     clear H
     go_wp2
     repeat (go_quiet (fail); try go_wp2)
     go_meet
     case rel => exact ⟨_, (wrap64 (-a1)), (by first | rfl | (simp; done) | (simp [*]; done)), H', ⟨by have := HJ2.out; first | omega | exact Nat.le_refl _⟩, by repeat (first | exact Drawn0.refl _ | apply Drawn0.step)⟩
    ·rw [if_neg c6] at H
     have c6b0 : decide (a1 < 0) = false := decide_eq_false c6
     clear c6
     (first | rw [c6b0] | (simp only [i64_w, i32_w]; rw [c6b0]) | skip)
     have H' := Aside0.mk H
     clear H
     go_wp2
     repeat (go_quiet (fail); try go_wp2)
     go_meet
     case rel => exact ⟨_, (a1), (by first | rfl | (simp; done) | (simp [*]; done)), H', ⟨by have := HJ2.out; first | omega | exact Nat.le_refl _⟩, by repeat (first | exact Drawn0.refl _ | apply Drawn0.step)⟩
   case rest =>
    clear HC5
    try clear c2
    try clear p2
    try clear c4
    try clear c4b0
    try clear c6
    try clear c6b0
    try clear p6
    try clear p2
    obtain ⟨kq, x1_4, rfl, HA, HJ4, ⟨mc4, rfl⟩⟩ := hcut
    cases kq with
    | zero => exact absurd HA.out (by simp [warpwrightref25_Gcd.j1])
    | succ kj4 =>
     have H := HA.out
     clear HA
     simp only [warpwrightref25_Gcd.j1] at H
     have H' := Aside0.mk H
     clear H
     go_wp2
     repeat (go_quiet (fail); try go_wp2)
     go_loopg [0, 1] kj4 (fun kq v0 v1 w' => ∃ (x0_3 : Int) (x1_3 : Int), v0 = .int .i64 x0_3 ∧ v1 = .int .i64 x1_3 ∧ Aside0 (warpwrightref25_Gcd.l0 kq x0_3 x1_3 = some r) ∧ Aside0 (kq ≤ kj4) ∧ Drawn0 w w')
     case atStart => exact ⟨(x0_2), (x1_4), (by first | rfl | (simp; done) | (simp [*]; done)), (by first | rfl | (simp; done) | (simp [*]; done)), H', ⟨Nat.le_refl _⟩, by repeat (first | exact Drawn0.refl _ | apply Drawn0.step)⟩
     case round =>
      clear H'
      try clear c2
      try clear p2
      try clear c4
      try clear c4b0
      try clear c6
      try clear c6b0
      try clear p6
      try clear p2
      try clear p6
      obtain ⟨x0_3, x1_3, rfl, rfl, HA, HK3, ⟨m3, rfl⟩⟩ := hrel
      cases gk with
      | zero => exact absurd HA.out (by simp [warpwrightref25_Gcd.l0])
      | succ k3 =>
       have H := HA.out
       clear HA
       simp only [warpwrightref25_Gcd.l0] at H
       by_cases c7 : x1_3 = 0
       ·rw [if_pos c7] at H
        have c7b0 : (x1_3 == 0) = true := beq_iff_eq.mpr c7
        have c7b1 : (x1_3 != 0) = false := bne_eq_false_iff_eq.mpr c7
        clear c7
        obtain rfl := Option.some.inj H
        go_wp2
        repeat (go_quiet (fail); try go_wp2)
        go_ret
        exact ⟨by first | rfl | (simp; done) | (simp [*]; done), by repeat (first | exact Drawn0.refl _ | apply Drawn0.step)⟩
       ·rw [if_neg c7] at H
        have c7b0 : (x1_3 == 0) = false := beq_eq_false_iff_ne.mpr c7
        have c7b1 : (x1_3 != 0) = true := bne_iff_ne.mpr c7
        have H' := Aside0.mk H
        clear H
        go_wp2
        repeat (go_quiet (fail); try go_wp2)
        go_roundg k3
        case measure => have := HJ2.out; have := HJ4.out; have := HK3.out; omega
        case rel => exact ⟨(x1_3), (Int.tmod x0_3 x1_3), (by first | rfl | (simp; done) | (simp [*]; done)), (by first | rfl | (simp; done) | (simp [*]; done)), H', ⟨by have := HJ2.out; have := HJ4.out; have := HK3.out; omega⟩, by repeat (first | exact Drawn0.refl _ | apply Drawn0.step)⟩

end Go.Proofs.Yteghmmkhfgkdgaa.QS
