-- Written by a program of this session (pp.py) over the kit's printer; Lean checks it.
import Derived.Test.YteghmmkhfgkdgaaQSx0
import Derived.Test.YteghmmkhfgkdgaaQSx4
namespace Go.Proofs.Yteghmmkhfgkdgaa.QS
open Go.RowKit Go.Proofs.YteghmmkhfgkdgaaW.PrintWords Go.Proofs.YteghmmkhfgkdgaaW.PrintLast Go.Proofs.YteghmmkhfgkdgaaW.PrintMore
attribute [local go_sem] max2_int min2_int max_two min_two max_three min_three max_four min_four   -- for this text's walks alone
set_option linter.unusedVariables false
set_option linter.unusedSimpArgs false

/-! ### span_Meet: function 42 -/
mutual
def span_Meet.j0 : Nat → Int → Int → Int → Int → Int → Int → Option (Int × Int × Int × Bool)
 | 0, _, _, _, _, _, _ => none
 | k + 1, x117000, x117001, x117002, x118000, x118001, x118002 => if (mx x117000 x118000) > (mn x117001 x118001) then (some (0, 0, 0, false)) else (if x118002 = 0 then ((span_Has.f x117000 x117001 x117002 x118000).bind fun t119 => (span_Meet.j1 k (mx x117000 x118000) (mn x117001 x118001) (!t119) x117000 x117001 x117002 x118000 x118001 x118002)) else (span_Meet.j1 k (mx x117000 x118000) (mn x117001 x118001) false x117000 x117001 x117002 x118000 x118001 x118002))
def span_Meet.j1 : Nat → Int → Int → Bool → Int → Int → Int → Int → Int → Int → Option (Int × Int × Int × Bool)
 | 0, _, _, _, _, _, _, _, _, _ => none
 | k + 1, x6, x7, x45, x117000, x117001, x117002, x118000, x118001, x118002 => if x45 = true then (some (0, 0, 0, false)) else (if x118002 = 0 then (some (x118000, x118001, x118002, true)) else ((span_euclid.f k x117002 x118002).bind fun bt120 => (if bt120.1 = 0 then (none) else (if (Int.tmod (wrap64 (x118000 - x117000)) bt120.1) = 0 then (span_Meet.j2 k x6 x7 bt120.1 x117000 x117001 x117002 x118000 x118001 x118002 bt120.1 bt120.2.1 bt120.2.2) else (some (0, 0, 0, false))))))
def span_Meet.j2 : Nat → Int → Int → Int → Int → Int → Int → Int → Int → Int → Int → Int → Int → Option (Int × Int × Int × Bool)
 | 0, _, _, _, _, _, _, _, _, _, _, _, _ => none
 | k + 1, x6, x7, x9, x117000, x117001, x117002, x118000, x118001, x118002, x124000, x124001, x124002 => if x9 = 0 then (none) else ((span_mulmod.f (wrap64 (Int.tdiv (wrap64 (x118000 - x117000)) x9)) x124001 (wrap64 (Int.tdiv x118002 x9))).bind fun t124 => ((span_floor.f (wrap64 (x117000 - x6)) x117002).bind fun t125 => ((span_floor.f (wrap64 (x7 - x117000)) x117002).bind fun t126 => ((span_floor.f (wrap64 (t124 - (wrap64 (-t125)))) (wrap64 (Int.tdiv x118002 x9))).bind fun t127 => (if (wrap64 (t124 + (wrap64 ((mx 0 (wrap64 (-t127))) * (wrap64 (Int.tdiv x118002 x9)))))) > t126 then (some (0, 0, 0, false)) else (span_Meet.j3 k (wrap64 (Int.tdiv x118002 x9)) (wrap64 (t124 + (wrap64 ((mx 0 (wrap64 (-t127))) * (wrap64 (Int.tdiv x118002 x9)))))) t126 x117000 x117001 x117002))))))
def span_Meet.j3 : Nat → Int → Int → Int → Int → Int → Int → Option (Int × Int × Int × Bool)
 | 0, _, _, _, _, _, _ => none
 | k + 1, x10, x11, x13, x117000, x117001, x117002 => if x10 = 0 then (none) else ((span_made.f (wrap64 (x117000 + (wrap64 (x117002 * x11)))) (wrap64 (x117000 + (wrap64 (x117002 * (wrap64 (x13 - (Int.tmod (wrap64 (x13 - x11)) x10))))))) 0).bind fun bt128 => (if x11 < (wrap64 (x13 - (Int.tmod (wrap64 (x13 - x11)) x10))) then (span_Meet.j4 k bt128.1 bt128.2.1 (wrap64 (x117002 * x10))) else (span_Meet.j4 k bt128.1 bt128.2.1 bt128.2.2)))
def span_Meet.j4 : Nat → Int → Int → Int → Option (Int × Int × Int × Bool)
 | 0, _, _, _ => none
 | k + 1, x132000, x132001, x132002 => some (x132000, x132001, x132002, true)
end
def span_Meet.f (k : Nat) (a0_0 : Int) (a0_1 : Int) (a0_2 : Int) (a1_0 : Int) (a1_1 : Int) (a1_2 : Int) : Option (Int × Int × Int × Bool) := if a0_2 < a1_2 then (span_Meet.j0 k a1_0 a1_1 a1_2 a0_0 a0_1 a0_2) else (span_Meet.j0 k a0_0 a0_1 a0_2 a1_0 a1_1 a1_2)
theorem span_Meet.mono_l : ∀ k, (∀ y0 y1 y2 y3 y4 y5, LeO (span_Meet.j0 k y0 y1 y2 y3 y4 y5) (span_Meet.j0 (k + 1) y0 y1 y2 y3 y4 y5)) ∧ (∀ y0 y1 y2 y3 y4 y5 y6 y7 y8, LeO (span_Meet.j1 k y0 y1 y2 y3 y4 y5 y6 y7 y8) (span_Meet.j1 (k + 1) y0 y1 y2 y3 y4 y5 y6 y7 y8)) ∧ (∀ y0 y1 y2 y3 y4 y5 y6 y7 y8 y9 y10 y11, LeO (span_Meet.j2 k y0 y1 y2 y3 y4 y5 y6 y7 y8 y9 y10 y11) (span_Meet.j2 (k + 1) y0 y1 y2 y3 y4 y5 y6 y7 y8 y9 y10 y11)) ∧ (∀ y0 y1 y2 y3 y4 y5, LeO (span_Meet.j3 k y0 y1 y2 y3 y4 y5) (span_Meet.j3 (k + 1) y0 y1 y2 y3 y4 y5)) ∧ (∀ y0 y1 y2, LeO (span_Meet.j4 k y0 y1 y2) (span_Meet.j4 (k + 1) y0 y1 y2))
 | 0 => ⟨fun _ _ _ _ _ _ r h => by simp [span_Meet.j0] at h, fun _ _ _ _ _ _ _ _ _ r h => by simp [span_Meet.j1] at h, fun _ _ _ _ _ _ _ _ _ _ _ _ r h => by simp [span_Meet.j2] at h, fun _ _ _ _ _ _ r h => by simp [span_Meet.j3] at h, fun _ _ _ r h => by simp [span_Meet.j4] at h⟩
 | k + 1 => by
  obtain ⟨ih0, ih1, ih2, ih3, ih4⟩ := span_Meet.mono_l k
  refine ⟨?_, ?_, ?_, ?_, ?_⟩
  ·intro y0 y1 y2 y3 y4 y5
   unfold span_Meet.j0
   repeat' first
   | (with_reducible exact ih0 _ _ _ _ _ _)
   | (with_reducible exact ih1 _ _ _ _ _ _ _ _ _)
   | (with_reducible exact ih2 _ _ _ _ _ _ _ _ _ _ _ _)
   | (with_reducible exact ih3 _ _ _ _ _ _)
   | (with_reducible exact ih4 _ _ _)
   | (with_reducible exact span_euclid.mono _ _ _)
   | (with_reducible exact LeO.refl _)
   | (with_reducible exact LeO.none _)
   | (with_reducible refine LeO.ite ?_ ?_)
   | (with_reducible refine LeO.bind ?_ (fun _ => ?_))
   | exact ih0 _ _ _ _ _ _
   | exact ih1 _ _ _ _ _ _ _ _ _
   | exact ih2 _ _ _ _ _ _ _ _ _ _ _ _
   | exact ih3 _ _ _ _ _ _
   | exact ih4 _ _ _
   | exact span_euclid.mono _ _ _
   | exact LeO.none _
   | refine LeO.ite ?_ ?_
   | refine LeO.bind ?_ (fun _ => ?_)
  ·intro y0 y1 y2 y3 y4 y5 y6 y7 y8
   unfold span_Meet.j1
   repeat' first
   | (with_reducible exact ih0 _ _ _ _ _ _)
   | (with_reducible exact ih1 _ _ _ _ _ _ _ _ _)
   | (with_reducible exact ih2 _ _ _ _ _ _ _ _ _ _ _ _)
   | (with_reducible exact ih3 _ _ _ _ _ _)
   | (with_reducible exact ih4 _ _ _)
   | (with_reducible exact span_euclid.mono _ _ _)
   | (with_reducible exact LeO.refl _)
   | (with_reducible exact LeO.none _)
   | (with_reducible refine LeO.ite ?_ ?_)
   | (with_reducible refine LeO.bind ?_ (fun _ => ?_))
   | exact ih0 _ _ _ _ _ _
   | exact ih1 _ _ _ _ _ _ _ _ _
   | exact ih2 _ _ _ _ _ _ _ _ _ _ _ _
   | exact ih3 _ _ _ _ _ _
   | exact ih4 _ _ _
   | exact span_euclid.mono _ _ _
   | exact LeO.none _
   | refine LeO.ite ?_ ?_
   | refine LeO.bind ?_ (fun _ => ?_)
  ·intro y0 y1 y2 y3 y4 y5 y6 y7 y8 y9 y10 y11
   unfold span_Meet.j2
   repeat' first
   | (with_reducible exact ih0 _ _ _ _ _ _)
   | (with_reducible exact ih1 _ _ _ _ _ _ _ _ _)
   | (with_reducible exact ih2 _ _ _ _ _ _ _ _ _ _ _ _)
   | (with_reducible exact ih3 _ _ _ _ _ _)
   | (with_reducible exact ih4 _ _ _)
   | (with_reducible exact span_euclid.mono _ _ _)
   | (with_reducible exact LeO.refl _)
   | (with_reducible exact LeO.none _)
   | (with_reducible refine LeO.ite ?_ ?_)
   | (with_reducible refine LeO.bind ?_ (fun _ => ?_))
   | exact ih0 _ _ _ _ _ _
   | exact ih1 _ _ _ _ _ _ _ _ _
   | exact ih2 _ _ _ _ _ _ _ _ _ _ _ _
   | exact ih3 _ _ _ _ _ _
   | exact ih4 _ _ _
   | exact span_euclid.mono _ _ _
   | exact LeO.none _
   | refine LeO.ite ?_ ?_
   | refine LeO.bind ?_ (fun _ => ?_)
  ·intro y0 y1 y2 y3 y4 y5
   unfold span_Meet.j3
   repeat' first
   | (with_reducible exact ih0 _ _ _ _ _ _)
   | (with_reducible exact ih1 _ _ _ _ _ _ _ _ _)
   | (with_reducible exact ih2 _ _ _ _ _ _ _ _ _ _ _ _)
   | (with_reducible exact ih3 _ _ _ _ _ _)
   | (with_reducible exact ih4 _ _ _)
   | (with_reducible exact span_euclid.mono _ _ _)
   | (with_reducible exact LeO.refl _)
   | (with_reducible exact LeO.none _)
   | (with_reducible refine LeO.ite ?_ ?_)
   | (with_reducible refine LeO.bind ?_ (fun _ => ?_))
   | exact ih0 _ _ _ _ _ _
   | exact ih1 _ _ _ _ _ _ _ _ _
   | exact ih2 _ _ _ _ _ _ _ _ _ _ _ _
   | exact ih3 _ _ _ _ _ _
   | exact ih4 _ _ _
   | exact span_euclid.mono _ _ _
   | exact LeO.none _
   | refine LeO.ite ?_ ?_
   | refine LeO.bind ?_ (fun _ => ?_)
  ·intro y0 y1 y2
   unfold span_Meet.j4
   repeat' first
   | (with_reducible exact ih0 _ _ _ _ _ _)
   | (with_reducible exact ih1 _ _ _ _ _ _ _ _ _)
   | (with_reducible exact ih2 _ _ _ _ _ _ _ _ _ _ _ _)
   | (with_reducible exact ih3 _ _ _ _ _ _)
   | (with_reducible exact ih4 _ _ _)
   | (with_reducible exact span_euclid.mono _ _ _)
   | (with_reducible exact LeO.refl _)
   | (with_reducible exact LeO.none _)
   | (with_reducible refine LeO.ite ?_ ?_)
   | (with_reducible refine LeO.bind ?_ (fun _ => ?_))
   | exact ih0 _ _ _ _ _ _
   | exact ih1 _ _ _ _ _ _ _ _ _
   | exact ih2 _ _ _ _ _ _ _ _ _ _ _ _
   | exact ih3 _ _ _ _ _ _
   | exact ih4 _ _ _
   | exact span_euclid.mono _ _ _
   | exact LeO.none _
   | refine LeO.ite ?_ ?_
   | refine LeO.bind ?_ (fun _ => ?_)
theorem span_Meet.mono : ∀ a0 a1 a2 a3 a4 a5 k, LeO (span_Meet.f k a0 a1 a2 a3 a4 a5) (span_Meet.f (k + 1) a0 a1 a2 a3 a4 a5) := by
 intro a0 a1 a2 a3 a4 a5 k
 obtain ⟨ih0, ih1, ih2, ih3, ih4⟩ := span_Meet.mono_l k
 unfold span_Meet.f
 repeat' first
   | (with_reducible exact ih0 _ _ _ _ _ _)
   | (with_reducible exact ih1 _ _ _ _ _ _ _ _ _)
   | (with_reducible exact ih2 _ _ _ _ _ _ _ _ _ _ _ _)
   | (with_reducible exact ih3 _ _ _ _ _ _)
   | (with_reducible exact ih4 _ _ _)
   | (with_reducible exact span_euclid.mono _ _ _)
   | (with_reducible exact LeO.refl _)
   | (with_reducible exact LeO.none _)
   | (with_reducible refine LeO.ite ?_ ?_)
   | (with_reducible refine LeO.bind ?_ (fun _ => ?_))
   | exact ih0 _ _ _ _ _ _
   | exact ih1 _ _ _ _ _ _ _ _ _
   | exact ih2 _ _ _ _ _ _ _ _ _ _ _ _
   | exact ih3 _ _ _ _ _ _
   | exact ih4 _ _ _
   | exact span_euclid.mono _ _ _
   | exact LeO.none _
   | refine LeO.ite ?_ ?_
   | refine LeO.bind ?_ (fun _ => ?_)
set_option maxHeartbeats 8000000 in
set_option maxRecDepth 100000 in
theorem span_Meet.calls (k : Nat) (a0_0 : Int) (a0_1 : Int) (a0_2 : Int) (a1_0 : Int) (a1_1 : Int) (a1_2 : Int) (r1 : Int) (r2 : Int) (r3 : Int) (r4 : Bool) (w : World) (h : span_Meet.f k a0_0 a0_1 a0_2 a1_0 a1_1 a1_2 = some (r1, r2, r3, r4)) :
  Calls Try.prog 42 #[.agg #[.int .i64 a0_0, .int .i64 a0_1, .int .i64 a0_2], .agg #[.int .i64 a1_0, .int .i64 a1_1, .int .i64 a1_2]] w fun e w' => e = .returned (.tuple #[.agg #[.int .i64 r1, .int .i64 r2, .int .i64 r3], .bool r4]) ∧ Below w.heap.size w w' := by
 have hu28 := Try.underlying28
 have hu51 := Try.underlying51
 have HB := Aside0.mk (Below.refl w.heap.size w)
 have H : (if a0_2 < a1_2 then (span_Meet.j0 k a1_0 a1_1 a1_2 a0_0 a0_1 a0_2) else (span_Meet.j0 k a0_0 a0_1 a0_2 a1_0 a1_1 a1_2)) = some (r1, r2, r3, r4) := h
 clear h
 have HC3 := Aside0.mk H
 clear H
 go_enter Try.func42, Try.ntmps42
 go_upto_if 19 with (first | ((with_reducible refine gate_dst (N := 2) rfl ?_); refine box_event ?hg (N := 2) ?hd (cs := #[.int .i64 a0_0, .int .i64 a0_1, .int .i64 a0_2]) (t := 28) ?hr ?_; (case hd => rfl); (case hg => rfl); (case hr => first | (go_simp; done) | (go_simp; rfl)); intro gb116 hg w4 hbox hb; have n0_ := Aside0.mk (below_step (bl_ HB) hb); have n1_ := Aside0.mk (hbox); have n2_ := Aside0.mk ((by rw [hg]; exact (below_size (bl_ HB)) : w.heap.size ≤ gb116)); have n3_ := Aside0.mk ((by rw [hg]; exact (below_size (bl_ HB)) : w.heap.size ≤ gb116)); clear HB; have HB := n0_; have BK116 := n1_; have GW116 := n2_; have GE116 := n3_; clear n0_ n1_ n2_ n3_; clear hb hbox hg) | ((with_reducible refine gate_dst (N := 3) rfl ?_); refine box_event ?hg (N := 3) ?hd (cs := #[.int .i64 a1_0, .int .i64 a1_1, .int .i64 a1_2]) (t := 28) ?hr ?_; (case hd => rfl); (case hg => rfl); (case hr => first | (go_simp; done) | (go_simp; rfl)); intro gb117 hg w5 hbox hb; have n0_ := Aside0.mk (bb_ BK116 hb); have n1_ := Aside0.mk (below_step (bl_ HB) hb); have n2_ := Aside0.mk (hbox); have n3_ := Aside0.mk ((by rw [hg]; exact (below_size (bl_ HB)) : w.heap.size ≤ gb117)); have n4_ := Aside0.mk ((by rw [hg]; exact (below_size (bl_ HB)) : w.heap.size ≤ gb117)); have n5_ := Aside0.mk (nl_ hg BK116); have n6_ := Aside0.mk (ng_ hg BK116); clear BK116; clear HB; have BK116 := n0_; have HB := n1_; have BK117 := n2_; have GW117 := n3_; have GE117 := n4_; have NB116_117 := n5_; have NB117_116 := n6_; clear n0_ n1_ n2_ n3_ n4_ n5_ n6_; clear hb hbox hg) | ((with_reducible refine gate_dst (N := 4) rfl ?_); refine box_event ?hg (N := 4) ?hd (cs := #[.int .i64 0, .int .i64 0, .int .i64 0]) (t := 28) ?hr ?_; (case hd => rfl); (case hg => rfl); (case hr => first | (go_simp; done) | (go_simp; rfl)); intro gb118 hg w6 hbox hb; have n0_ := Aside0.mk (bb_ BK116 hb); have n1_ := Aside0.mk (bb_ BK117 hb); have n2_ := Aside0.mk (below_step (bl_ HB) hb); have n3_ := Aside0.mk (hbox); have n4_ := Aside0.mk ((by rw [hg]; exact (below_size (bl_ HB)) : w.heap.size ≤ gb118)); have n5_ := Aside0.mk ((by rw [hg]; exact (below_size (bl_ HB)) : w.heap.size ≤ gb118)); have n6_ := Aside0.mk (nl_ hg BK116); have n7_ := Aside0.mk (ng_ hg BK116); have n8_ := Aside0.mk (nl_ hg BK117); have n9_ := Aside0.mk (ng_ hg BK117); clear BK116; clear BK117; clear HB; have BK116 := n0_; have BK117 := n1_; have HB := n2_; have BK118 := n3_; have GW118 := n4_; have GE118 := n5_; have NB116_118 := n6_; have NB118_116 := n7_; have NB117_118 := n8_; have NB118_117 := n9_; clear n0_ n1_ n2_ n3_ n4_ n5_ n6_ n7_ n8_ n9_; clear hb hbox hg; have hnb7 := NB116_117.out; have hnc7 := NB117_116.out; have hnb8 := NB116_118.out; have hnc8 := NB118_116.out; have hcz9_0 : w6.cell? ⟨gb116, 0, none⟩ = some (.int .i64 a0_0) := (blk_cell BK116.out 0).trans rfl; have hcz9_1 : w6.cell? ⟨gb116, 1, none⟩ = some (.int .i64 a0_1) := (blk_cell BK116.out 1).trans rfl; have hcz9_2 : w6.cell? ⟨gb116, 2, none⟩ = some (.int .i64 a0_2) := (blk_cell BK116.out 2).trans rfl; have hfz9_0 := blk_frozen BK116.out 0; have hfz9_1 := blk_frozen BK116.out 1; have hfz9_2 := blk_frozen BK116.out 2; have hnb10 := NB117_118.out; have hnc10 := NB118_117.out; have hcz11_0 : w6.cell? ⟨gb117, 0, none⟩ = some (.int .i64 a1_0) := (blk_cell BK117.out 0).trans rfl; have hcz11_1 : w6.cell? ⟨gb117, 1, none⟩ = some (.int .i64 a1_1) := (blk_cell BK117.out 1).trans rfl; have hcz11_2 : w6.cell? ⟨gb117, 2, none⟩ = some (.int .i64 a1_2) := (blk_cell BK117.out 2).trans rfl; have hfz11_0 := blk_frozen BK117.out 0; have hfz11_1 := blk_frozen BK117.out 1; have hfz11_2 := blk_frozen BK117.out 2))
 repeat (go_quiet (first | ((with_reducible refine gate_dst (N := 2) rfl ?_); refine box_event ?hg (N := 2) ?hd (cs := #[.int .i64 a0_0, .int .i64 a0_1, .int .i64 a0_2]) (t := 28) ?hr ?_; (case hd => rfl); (case hg => rfl); (case hr => first | (go_simp; done) | (go_simp; rfl)); intro gb116 hg w4 hbox hb; have n0_ := Aside0.mk (below_step (bl_ HB) hb); have n1_ := Aside0.mk (hbox); have n2_ := Aside0.mk ((by rw [hg]; exact (below_size (bl_ HB)) : w.heap.size ≤ gb116)); have n3_ := Aside0.mk ((by rw [hg]; exact (below_size (bl_ HB)) : w.heap.size ≤ gb116)); clear HB; have HB := n0_; have BK116 := n1_; have GW116 := n2_; have GE116 := n3_; clear n0_ n1_ n2_ n3_; clear hb hbox hg) | ((with_reducible refine gate_dst (N := 3) rfl ?_); refine box_event ?hg (N := 3) ?hd (cs := #[.int .i64 a1_0, .int .i64 a1_1, .int .i64 a1_2]) (t := 28) ?hr ?_; (case hd => rfl); (case hg => rfl); (case hr => first | (go_simp; done) | (go_simp; rfl)); intro gb117 hg w5 hbox hb; have n0_ := Aside0.mk (bb_ BK116 hb); have n1_ := Aside0.mk (below_step (bl_ HB) hb); have n2_ := Aside0.mk (hbox); have n3_ := Aside0.mk ((by rw [hg]; exact (below_size (bl_ HB)) : w.heap.size ≤ gb117)); have n4_ := Aside0.mk ((by rw [hg]; exact (below_size (bl_ HB)) : w.heap.size ≤ gb117)); have n5_ := Aside0.mk (nl_ hg BK116); have n6_ := Aside0.mk (ng_ hg BK116); clear BK116; clear HB; have BK116 := n0_; have HB := n1_; have BK117 := n2_; have GW117 := n3_; have GE117 := n4_; have NB116_117 := n5_; have NB117_116 := n6_; clear n0_ n1_ n2_ n3_ n4_ n5_ n6_; clear hb hbox hg) | ((with_reducible refine gate_dst (N := 4) rfl ?_); refine box_event ?hg (N := 4) ?hd (cs := #[.int .i64 0, .int .i64 0, .int .i64 0]) (t := 28) ?hr ?_; (case hd => rfl); (case hg => rfl); (case hr => first | (go_simp; done) | (go_simp; rfl)); intro gb118 hg w6 hbox hb; have n0_ := Aside0.mk (bb_ BK116 hb); have n1_ := Aside0.mk (bb_ BK117 hb); have n2_ := Aside0.mk (below_step (bl_ HB) hb); have n3_ := Aside0.mk (hbox); have n4_ := Aside0.mk ((by rw [hg]; exact (below_size (bl_ HB)) : w.heap.size ≤ gb118)); have n5_ := Aside0.mk ((by rw [hg]; exact (below_size (bl_ HB)) : w.heap.size ≤ gb118)); have n6_ := Aside0.mk (nl_ hg BK116); have n7_ := Aside0.mk (ng_ hg BK116); have n8_ := Aside0.mk (nl_ hg BK117); have n9_ := Aside0.mk (ng_ hg BK117); clear BK116; clear BK117; clear HB; have BK116 := n0_; have BK117 := n1_; have HB := n2_; have BK118 := n3_; have GW118 := n4_; have GE118 := n5_; have NB116_118 := n6_; have NB118_116 := n7_; have NB117_118 := n8_; have NB118_117 := n9_; clear n0_ n1_ n2_ n3_ n4_ n5_ n6_ n7_ n8_ n9_; clear hb hbox hg; have hnb7 := NB116_117.out; have hnc7 := NB117_116.out; have hnb8 := NB116_118.out; have hnc8 := NB118_116.out; have hcz9_0 : w6.cell? ⟨gb116, 0, none⟩ = some (.int .i64 a0_0) := (blk_cell BK116.out 0).trans rfl; have hcz9_1 : w6.cell? ⟨gb116, 1, none⟩ = some (.int .i64 a0_1) := (blk_cell BK116.out 1).trans rfl; have hcz9_2 : w6.cell? ⟨gb116, 2, none⟩ = some (.int .i64 a0_2) := (blk_cell BK116.out 2).trans rfl; have hfz9_0 := blk_frozen BK116.out 0; have hfz9_1 := blk_frozen BK116.out 1; have hfz9_2 := blk_frozen BK116.out 2; have hnb10 := NB117_118.out; have hnc10 := NB118_117.out; have hcz11_0 : w6.cell? ⟨gb117, 0, none⟩ = some (.int .i64 a1_0) := (blk_cell BK117.out 0).trans rfl; have hcz11_1 : w6.cell? ⟨gb117, 1, none⟩ = some (.int .i64 a1_1) := (blk_cell BK117.out 1).trans rfl; have hcz11_2 : w6.cell? ⟨gb117, 2, none⟩ = some (.int .i64 a1_2) := (blk_cell BK117.out 2).trans rfl; have hfz11_0 := blk_frozen BK117.out 0; have hfz11_1 := blk_frozen BK117.out 1; have hfz11_2 := blk_frozen BK117.out 2)); go_upto_if 19 with (first | ((with_reducible refine gate_dst (N := 2) rfl ?_); refine box_event ?hg (N := 2) ?hd (cs := #[.int .i64 a0_0, .int .i64 a0_1, .int .i64 a0_2]) (t := 28) ?hr ?_; (case hd => rfl); (case hg => rfl); (case hr => first | (go_simp; done) | (go_simp; rfl)); intro gb116 hg w4 hbox hb; have n0_ := Aside0.mk (below_step (bl_ HB) hb); have n1_ := Aside0.mk (hbox); have n2_ := Aside0.mk ((by rw [hg]; exact (below_size (bl_ HB)) : w.heap.size ≤ gb116)); have n3_ := Aside0.mk ((by rw [hg]; exact (below_size (bl_ HB)) : w.heap.size ≤ gb116)); clear HB; have HB := n0_; have BK116 := n1_; have GW116 := n2_; have GE116 := n3_; clear n0_ n1_ n2_ n3_; clear hb hbox hg) | ((with_reducible refine gate_dst (N := 3) rfl ?_); refine box_event ?hg (N := 3) ?hd (cs := #[.int .i64 a1_0, .int .i64 a1_1, .int .i64 a1_2]) (t := 28) ?hr ?_; (case hd => rfl); (case hg => rfl); (case hr => first | (go_simp; done) | (go_simp; rfl)); intro gb117 hg w5 hbox hb; have n0_ := Aside0.mk (bb_ BK116 hb); have n1_ := Aside0.mk (below_step (bl_ HB) hb); have n2_ := Aside0.mk (hbox); have n3_ := Aside0.mk ((by rw [hg]; exact (below_size (bl_ HB)) : w.heap.size ≤ gb117)); have n4_ := Aside0.mk ((by rw [hg]; exact (below_size (bl_ HB)) : w.heap.size ≤ gb117)); have n5_ := Aside0.mk (nl_ hg BK116); have n6_ := Aside0.mk (ng_ hg BK116); clear BK116; clear HB; have BK116 := n0_; have HB := n1_; have BK117 := n2_; have GW117 := n3_; have GE117 := n4_; have NB116_117 := n5_; have NB117_116 := n6_; clear n0_ n1_ n2_ n3_ n4_ n5_ n6_; clear hb hbox hg) | ((with_reducible refine gate_dst (N := 4) rfl ?_); refine box_event ?hg (N := 4) ?hd (cs := #[.int .i64 0, .int .i64 0, .int .i64 0]) (t := 28) ?hr ?_; (case hd => rfl); (case hg => rfl); (case hr => first | (go_simp; done) | (go_simp; rfl)); intro gb118 hg w6 hbox hb; have n0_ := Aside0.mk (bb_ BK116 hb); have n1_ := Aside0.mk (bb_ BK117 hb); have n2_ := Aside0.mk (below_step (bl_ HB) hb); have n3_ := Aside0.mk (hbox); have n4_ := Aside0.mk ((by rw [hg]; exact (below_size (bl_ HB)) : w.heap.size ≤ gb118)); have n5_ := Aside0.mk ((by rw [hg]; exact (below_size (bl_ HB)) : w.heap.size ≤ gb118)); have n6_ := Aside0.mk (nl_ hg BK116); have n7_ := Aside0.mk (ng_ hg BK116); have n8_ := Aside0.mk (nl_ hg BK117); have n9_ := Aside0.mk (ng_ hg BK117); clear BK116; clear BK117; clear HB; have BK116 := n0_; have BK117 := n1_; have HB := n2_; have BK118 := n3_; have GW118 := n4_; have GE118 := n5_; have NB116_118 := n6_; have NB118_116 := n7_; have NB117_118 := n8_; have NB118_117 := n9_; clear n0_ n1_ n2_ n3_ n4_ n5_ n6_ n7_ n8_ n9_; clear hb hbox hg; have hnb7 := NB116_117.out; have hnc7 := NB117_116.out; have hnb8 := NB116_118.out; have hnc8 := NB118_116.out; have hcz9_0 : w6.cell? ⟨gb116, 0, none⟩ = some (.int .i64 a0_0) := (blk_cell BK116.out 0).trans rfl; have hcz9_1 : w6.cell? ⟨gb116, 1, none⟩ = some (.int .i64 a0_1) := (blk_cell BK116.out 1).trans rfl; have hcz9_2 : w6.cell? ⟨gb116, 2, none⟩ = some (.int .i64 a0_2) := (blk_cell BK116.out 2).trans rfl; have hfz9_0 := blk_frozen BK116.out 0; have hfz9_1 := blk_frozen BK116.out 1; have hfz9_2 := blk_frozen BK116.out 2; have hnb10 := NB117_118.out; have hnc10 := NB118_117.out; have hcz11_0 : w6.cell? ⟨gb117, 0, none⟩ = some (.int .i64 a1_0) := (blk_cell BK117.out 0).trans rfl; have hcz11_1 : w6.cell? ⟨gb117, 1, none⟩ = some (.int .i64 a1_1) := (blk_cell BK117.out 1).trans rfl; have hcz11_2 : w6.cell? ⟨gb117, 2, none⟩ = some (.int .i64 a1_2) := (blk_cell BK117.out 2).trans rfl; have hfz11_0 := blk_frozen BK117.out 0; have hfz11_1 := blk_frozen BK117.out 1; have hfz11_2 := blk_frozen BK117.out 2)))
 (try simp only [Act.put, List.setIfInBounds_toArray, List.set_cons_zero, List.set_cons_succ])
 go_cut [] (fun wc => ∃ (kq : Nat) (x117000_2 : Int) (x117001_2 : Int) (x117002_2 : Int) (x118000_2 : Int) (x118001_2 : Int) (x118002_2 : Int), Aside0 (span_Meet.j0 kq x117000_2 x117001_2 x117002_2 x118000_2 x118001_2 x118002_2 = some (r1, r2, r3, r4)) ∧ Aside0 (kq ≤ k) ∧ Aside0 (wc.heap[gb116]? = some (.cells #[.int .i64 x117000_2, .int .i64 x117001_2, .int .i64 x117002_2] 28 (0, 0))) ∧ Aside0 (wc.heap[gb117]? = some (.cells #[.int .i64 x118000_2, .int .i64 x118001_2, .int .i64 x118002_2] 28 (0, 0))) ∧ Aside0 (wc.heap[gb118]? = some (.cells #[.int .i64 0, .int .i64 0, .int .i64 0] 28 (0, 0))) ∧ Aside0 (Below w.heap.size w wc))
 case first =>
  have H := HC3.out
  clear HC3
  by_cases c12 : a0_2 < a1_2
  ·rw [if_pos c12] at H
   have c12b0 : decide (a0_2 < a1_2) = true := decide_eq_true c12
   clear c12
   (first | rw [c12b0] | (simp only [i64_w, i32_w]; rw [c12b0]) | skip)
   have H' := Aside0.mk H
   clear H
   have hnb13 := NB117_116.out
   have hnc13 := NB116_117.out
   have hnb14 := NB117_118.out
   have hnc14 := NB118_117.out
   have hcz15_0 : w6.cell? ⟨gb117, 0, none⟩ = some (.int .i64 a1_0) := (blk_cell BK117.out 0).trans rfl
   have hcz15_1 : w6.cell? ⟨gb117, 1, none⟩ = some (.int .i64 a1_1) := (blk_cell BK117.out 1).trans rfl
   have hcz15_2 : w6.cell? ⟨gb117, 2, none⟩ = some (.int .i64 a1_2) := (blk_cell BK117.out 2).trans rfl
   have hfz15_0 := blk_frozen BK117.out 0
   have hfz15_1 := blk_frozen BK117.out 1
   have hfz15_2 := blk_frozen BK117.out 2
   have hnb16 := NB116_118.out
   have hnc16 := NB118_116.out
   have hcz17_0 : w6.cell? ⟨gb116, 0, none⟩ = some (.int .i64 a0_0) := (blk_cell BK116.out 0).trans rfl
   have hcz17_1 : w6.cell? ⟨gb116, 1, none⟩ = some (.int .i64 a0_1) := (blk_cell BK116.out 1).trans rfl
   have hcz17_2 : w6.cell? ⟨gb116, 2, none⟩ = some (.int .i64 a0_2) := (blk_cell BK116.out 2).trans rfl
   have hfz17_0 := blk_frozen BK116.out 0
   have hfz17_1 := blk_frozen BK116.out 1
   have hfz17_2 := blk_frozen BK116.out 2
   go_wp2
   repeat (go_quiet (fail); try go_wp2)
   go_meet
   case rel => exact ⟨_, (a1_0), (a1_1), (a1_2), (a0_0), (a0_1), (a0_2), H', ⟨by first | omega | exact Nat.le_refl _⟩, ⟨by (with_reducible repeat (first | refine blk_drewN ?_ _ | refine blk_drew ?_ | refine blk_alloc ?_ _)); refine blk_far ?_ NB116_117.out _; (with_reducible repeat (first | refine blk_drewN ?_ _ | refine blk_drew ?_ | refine blk_alloc ?_ _)); refine blk_far ?_ NB116_117.out _; (with_reducible repeat (first | refine blk_drewN ?_ _ | refine blk_drew ?_ | refine blk_alloc ?_ _)); refine blk_far ?_ NB116_117.out _; (with_reducible repeat (first | refine blk_drewN ?_ _ | refine blk_drew ?_ | refine blk_alloc ?_ _)); refine blk_put (cs := #[.int .i64 a1_0, .int .i64 a1_1, .int .i64 a0_2]) ?_ 2 _ rfl; (with_reducible repeat (first | refine blk_drewN ?_ _ | refine blk_drew ?_ | refine blk_alloc ?_ _)); refine blk_put (cs := #[.int .i64 a1_0, .int .i64 a0_1, .int .i64 a0_2]) ?_ 1 _ rfl; (with_reducible repeat (first | refine blk_drewN ?_ _ | refine blk_drew ?_ | refine blk_alloc ?_ _)); refine blk_put (cs := #[.int .i64 a0_0, .int .i64 a0_1, .int .i64 a0_2]) ?_ 0 _ rfl; (with_reducible repeat (first | refine blk_drewN ?_ _ | refine blk_drew ?_ | refine blk_alloc ?_ _)); exact BK116.out⟩, ⟨by (with_reducible repeat (first | refine blk_drewN ?_ _ | refine blk_drew ?_ | refine blk_alloc ?_ _)); refine blk_put (cs := #[.int .i64 a0_0, .int .i64 a0_1, .int .i64 a1_2]) ?_ 2 _ rfl; (with_reducible repeat (first | refine blk_drewN ?_ _ | refine blk_drew ?_ | refine blk_alloc ?_ _)); refine blk_put (cs := #[.int .i64 a0_0, .int .i64 a1_1, .int .i64 a1_2]) ?_ 1 _ rfl; (with_reducible repeat (first | refine blk_drewN ?_ _ | refine blk_drew ?_ | refine blk_alloc ?_ _)); refine blk_put (cs := #[.int .i64 a1_0, .int .i64 a1_1, .int .i64 a1_2]) ?_ 0 _ rfl; (with_reducible repeat (first | refine blk_drewN ?_ _ | refine blk_drew ?_ | refine blk_alloc ?_ _)); refine blk_far ?_ NB117_116.out _; (with_reducible repeat (first | refine blk_drewN ?_ _ | refine blk_drew ?_ | refine blk_alloc ?_ _)); refine blk_far ?_ NB117_116.out _; (with_reducible repeat (first | refine blk_drewN ?_ _ | refine blk_drew ?_ | refine blk_alloc ?_ _)); refine blk_far ?_ NB117_116.out _; (with_reducible repeat (first | refine blk_drewN ?_ _ | refine blk_drew ?_ | refine blk_alloc ?_ _)); exact BK117.out⟩, ⟨by (with_reducible repeat (first | refine blk_drewN ?_ _ | refine blk_drew ?_ | refine blk_alloc ?_ _)); refine blk_far ?_ NB118_117.out _; (with_reducible repeat (first | refine blk_drewN ?_ _ | refine blk_drew ?_ | refine blk_alloc ?_ _)); refine blk_far ?_ NB118_117.out _; (with_reducible repeat (first | refine blk_drewN ?_ _ | refine blk_drew ?_ | refine blk_alloc ?_ _)); refine blk_far ?_ NB118_117.out _; (with_reducible repeat (first | refine blk_drewN ?_ _ | refine blk_drew ?_ | refine blk_alloc ?_ _)); refine blk_far ?_ NB118_116.out _; (with_reducible repeat (first | refine blk_drewN ?_ _ | refine blk_drew ?_ | refine blk_alloc ?_ _)); refine blk_far ?_ NB118_116.out _; (with_reducible repeat (first | refine blk_drewN ?_ _ | refine blk_drew ?_ | refine blk_alloc ?_ _)); refine blk_far ?_ NB118_116.out _; (with_reducible repeat (first | refine blk_drewN ?_ _ | refine blk_drew ?_ | refine blk_alloc ?_ _)); exact BK118.out⟩, ⟨by repeat (first | (with_reducible first | exact HB.out | apply below_alloc | apply pw_below_drewN | apply below_drew1 | refine below_set ?_ GE116.out | refine below_set ?_ GE117.out | refine below_set ?_ GE118.out) | exact HB.out)⟩⟩
  ·rw [if_neg c12] at H
   have c12b0 : decide (a0_2 < a1_2) = false := decide_eq_false c12
   clear c12
   (first | rw [c12b0] | (simp only [i64_w, i32_w]; rw [c12b0]) | skip)
   have H' := Aside0.mk H
   clear H
   go_wp2
   repeat (go_quiet (fail); try go_wp2)
   go_meet
   case rel => exact ⟨_, (a0_0), (a0_1), (a0_2), (a1_0), (a1_1), (a1_2), H', ⟨by first | omega | exact Nat.le_refl _⟩, ⟨by (with_reducible repeat (first | refine blk_drewN ?_ _ | refine blk_drew ?_ | refine blk_alloc ?_ _)); exact BK116.out⟩, ⟨by (with_reducible repeat (first | refine blk_drewN ?_ _ | refine blk_drew ?_ | refine blk_alloc ?_ _)); exact BK117.out⟩, ⟨by (with_reducible repeat (first | refine blk_drewN ?_ _ | refine blk_drew ?_ | refine blk_alloc ?_ _)); exact BK118.out⟩, ⟨by repeat (first | (with_reducible first | exact HB.out | apply below_alloc | apply pw_below_drewN | apply below_drew1 | refine below_set ?_ GE116.out | refine below_set ?_ GE117.out | refine below_set ?_ GE118.out) | exact HB.out)⟩⟩
 case rest =>
  clear HC3
  try clear c1
  try clear p2
  try clear c4
  try clear c7
  try clear c8
  try clear c10
  try clear c12
  try clear c12b0
  try clear c13
  try clear c14
  try clear c16
  try clear hcz11_0
  try clear hcz11_1
  try clear hcz11_2
  try clear hcz15_0
  try clear hcz15_1
  try clear hcz15_2
  try clear hcz17_0
  try clear hcz17_1
  try clear hcz17_2
  try clear hcz9_0
  try clear hcz9_1
  try clear hcz9_2
  try clear hfz11_0
  try clear hfz11_1
  try clear hfz11_2
  try clear hfz15_0
  try clear hfz15_1
  try clear hfz15_2
  try clear hfz17_0
  try clear hfz17_1
  try clear hfz17_2
  try clear hfz9_0
  try clear hfz9_1
  try clear hfz9_2
  obtain ⟨kq, x117000_2, x117001_2, x117002_2, x118000_2, x118001_2, x118002_2, HA, HJ2, BK116, BK117, BK118, HB⟩ := hcut
  cases kq with
  | zero => exact absurd HA.out (by simp [span_Meet.j0])
  | succ kj2 =>
   have H := HA.out
   clear HA
   simp only [span_Meet.j0] at H
   obtain ⟨ji18, hji18⟩ : ∃ j_ : Int, (mx x117000_2 x118000_2) = j_ := ⟨_, rfl⟩
   replace H : (if (ji18) > (mn x117001_2 x118001_2) then (some (0, 0, 0, false)) else (if x118002_2 = 0 then ((span_Has.f x117000_2 x117001_2 x117002_2 x118000_2).bind fun t119 => (span_Meet.j1 kj2 ji18 (mn x117001_2 x118001_2) (!t119) x117000_2 x117001_2 x117002_2 x118000_2 x118001_2 x118002_2)) else (span_Meet.j1 kj2 ji18 (mn x117001_2 x118001_2) false x117000_2 x117001_2 x117002_2 x118000_2 x118001_2 x118002_2))) = some (r1, r2, r3, r4) := by first | (rw [hji18] at H; exact H) | (simp only [hji18] at H ⊢; exact H)
   have hji18_ : (if x117000_2 < x118000_2 then x118000_2 else x117000_2) = ji18 := hji18
   obtain ⟨ji19, hji19⟩ : ∃ j_ : Int, (mn x117001_2 x118001_2) = j_ := ⟨_, rfl⟩
   replace H : (if (ji18) > (ji19) then (some (0, 0, 0, false)) else (if x118002_2 = 0 then ((span_Has.f x117000_2 x117001_2 x117002_2 x118000_2).bind fun t119 => (span_Meet.j1 kj2 ji18 ji19 (!t119) x117000_2 x117001_2 x117002_2 x118000_2 x118001_2 x118002_2)) else (span_Meet.j1 kj2 ji18 ji19 false x117000_2 x117001_2 x117002_2 x118000_2 x118001_2 x118002_2))) = some (r1, r2, r3, r4) := by first | (rw [hji19] at H; exact H) | (simp only [hji19] at H ⊢; exact H)
   have hji19_ : (if x118001_2 < x117001_2 then x118001_2 else x117001_2) = ji19 := hji19
   by_cases c20 : (ji18) > (ji19)
   ·rw [if_pos c20] at H
    have c20b0 : decide ((ji19) < (ji18)) = true := decide_eq_true c20
    clear c20
    simp only [Option.some.injEq, Prod.mk.injEq] at H
    obtain ⟨rfl, rfl, rfl, rfl⟩ := H
    have hnb21 := NB116_117.out
    have hnc21 := NB117_116.out
    have hnb22 := NB116_118.out
    have hnc22 := NB118_116.out
    have hcz23_0 : wc.cell? ⟨gb116, 0, none⟩ = some (.int .i64 x117000_2) := (blk_cell BK116.out 0).trans rfl
    have hcz23_1 : wc.cell? ⟨gb116, 1, none⟩ = some (.int .i64 x117001_2) := (blk_cell BK116.out 1).trans rfl
    have hcz23_2 : wc.cell? ⟨gb116, 2, none⟩ = some (.int .i64 x117002_2) := (blk_cell BK116.out 2).trans rfl
    have hfz23_0 := blk_frozen BK116.out 0
    have hfz23_1 := blk_frozen BK116.out 1
    have hfz23_2 := blk_frozen BK116.out 2
    have hnb24 := NB117_118.out
    have hnc24 := NB118_117.out
    have hcz25_0 : wc.cell? ⟨gb117, 0, none⟩ = some (.int .i64 x118000_2) := (blk_cell BK117.out 0).trans rfl
    have hcz25_1 : wc.cell? ⟨gb117, 1, none⟩ = some (.int .i64 x118001_2) := (blk_cell BK117.out 1).trans rfl
    have hcz25_2 : wc.cell? ⟨gb117, 2, none⟩ = some (.int .i64 x118002_2) := (blk_cell BK117.out 2).trans rfl
    have hfz25_0 := blk_frozen BK117.out 0
    have hfz25_1 := blk_frozen BK117.out 1
    have hfz25_2 := blk_frozen BK117.out 2
    have hcz26_0 : wc.cell? ⟨gb118, 0, none⟩ = some (.int .i64 0) := (blk_cell BK118.out 0).trans rfl
    have hcz26_1 : wc.cell? ⟨gb118, 1, none⟩ = some (.int .i64 0) := (blk_cell BK118.out 1).trans rfl
    have hcz26_2 : wc.cell? ⟨gb118, 2, none⟩ = some (.int .i64 0) := (blk_cell BK118.out 2).trans rfl
    have hfz26_0 := blk_frozen BK118.out 0
    have hfz26_1 := blk_frozen BK118.out 1
    have hfz26_2 := blk_frozen BK118.out 2
    go_wp2
    repeat (go_quiet (fail); try go_wp2)
    refine bodyPost_ret (results_ct rfl _ _ gb118 28 #[.int .i64 0, .int .i64 0, .int .i64 0] (0, 0) _ rfl (by (with_reducible repeat (first | refine blk_drewN ?_ _ | refine blk_drew ?_ | refine blk_alloc ?_ _)); refine blk_put (cs := #[.int .i64 0, .int .i64 0, .int .i64 0]) ?_ 2 _ rfl; (with_reducible repeat (first | refine blk_drewN ?_ _ | refine blk_drew ?_ | refine blk_alloc ?_ _)); refine blk_put (cs := #[.int .i64 0, .int .i64 0, .int .i64 0]) ?_ 1 _ rfl; (with_reducible repeat (first | refine blk_drewN ?_ _ | refine blk_drew ?_ | refine blk_alloc ?_ _)); refine blk_put (cs := #[.int .i64 0, .int .i64 0, .int .i64 0]) ?_ 0 _ rfl; (with_reducible repeat (first | refine blk_drewN ?_ _ | refine blk_drew ?_ | refine blk_alloc ?_ _)); exact BK118.out) Try.underlying28 rfl (by kernel_rfl)) rfl ?_
    exact ⟨by first | rfl | (simp [errW_none, errW_some] <;> rfl) | (simp only [← hji18, ← hji19]; first | rfl | (simp [errW_none, errW_some] <;> rfl)) | (simp [*, errW_none, errW_some] <;> rfl), by repeat (first | (with_reducible first | exact HB.out | apply below_alloc | apply pw_below_drewN | apply below_drew1 | refine below_set ?_ GE116.out | refine below_set ?_ GE117.out | refine below_set ?_ GE118.out) | exact HB.out)⟩
   ·rw [if_neg c20] at H
    have c20b0 : decide ((ji19) < (ji18)) = false := decide_eq_false c20
    clear c20
    have HC27 := Aside0.mk H
    clear H
    have hnb28 := NB116_117.out
    have hnc28 := NB117_116.out
    have hnb29 := NB116_118.out
    have hnc29 := NB118_116.out
    have hcz30_0 : wc.cell? ⟨gb116, 0, none⟩ = some (.int .i64 x117000_2) := (blk_cell BK116.out 0).trans rfl
    have hcz30_1 : wc.cell? ⟨gb116, 1, none⟩ = some (.int .i64 x117001_2) := (blk_cell BK116.out 1).trans rfl
    have hcz30_2 : wc.cell? ⟨gb116, 2, none⟩ = some (.int .i64 x117002_2) := (blk_cell BK116.out 2).trans rfl
    have hfz30_0 := blk_frozen BK116.out 0
    have hfz30_1 := blk_frozen BK116.out 1
    have hfz30_2 := blk_frozen BK116.out 2
    have hnb31 := NB117_118.out
    have hnc31 := NB118_117.out
    have hcz32_0 : wc.cell? ⟨gb117, 0, none⟩ = some (.int .i64 x118000_2) := (blk_cell BK117.out 0).trans rfl
    have hcz32_1 : wc.cell? ⟨gb117, 1, none⟩ = some (.int .i64 x118001_2) := (blk_cell BK117.out 1).trans rfl
    have hcz32_2 : wc.cell? ⟨gb117, 2, none⟩ = some (.int .i64 x118002_2) := (blk_cell BK117.out 2).trans rfl
    have hfz32_0 := blk_frozen BK117.out 0
    have hfz32_1 := blk_frozen BK117.out 1
    have hfz32_2 := blk_frozen BK117.out 2
    go_upto_region 6 with (fail)
    repeat (go_quiet (fail); go_upto_region 6 with (fail))
    go_cut [45] (fun v45 wc => ∃ (kq : Nat) (x45_26 : Bool), v45 = .bool x45_26 ∧ Aside0 (span_Meet.j1 kq ji18 ji19 x45_26 x117000_2 x117001_2 x117002_2 x118000_2 x118001_2 x118002_2 = some (r1, r2, r3, r4)) ∧ Aside0 (kq ≤ kj2) ∧ Aside0 (wc.heap[gb116]? = some (.cells #[.int .i64 x117000_2, .int .i64 x117001_2, .int .i64 x117002_2] 28 (0, 0))) ∧ Aside0 (wc.heap[gb117]? = some (.cells #[.int .i64 x118000_2, .int .i64 x118001_2, .int .i64 x118002_2] 28 (0, 0))) ∧ Aside0 (wc.heap[gb118]? = some (.cells #[.int .i64 0, .int .i64 0, .int .i64 0] 28 (0, 0))) ∧ Aside0 (Below w.heap.size w wc))
    case first =>
     have H := HC27.out
     clear HC27
     by_cases c33 : x118002_2 = 0
     ·rw [if_pos c33] at H
      have c33b0 : (x118002_2 == 0) = true := beq_iff_eq.mpr c33
      have c33b1 : (x118002_2 != 0) = false := bne_eq_false_iff_eq.mpr c33
      clear c33
      (first | rw [c33b0] | (simp only [i64_w, i32_w]; rw [c33b0]) | skip)
      replace H := Option.bind_eq_some_iff.mp H
      obtain ⟨t119, A340, H⟩ := H
      replace H : (span_Meet.j1 kj2 ji18 ji19 (!t119) x117000_2 x117001_2 x117002_2 x118000_2 x118001_2 x118002_2) = some (r1, r2, r3, r4) := H
      have A34 := Aside0.mk A340
      clear A340
      have H' := Aside0.mk H
      clear H
      have hnb35 := NB117_116.out
      have hnc35 := NB116_117.out
      have hnb36 := NB117_118.out
      have hnc36 := NB118_117.out
      have hcz37_0 : wc.cell? ⟨gb117, 0, none⟩ = some (.int .i64 x118000_2) := (blk_cell BK117.out 0).trans rfl
      have hcz37_1 : wc.cell? ⟨gb117, 1, none⟩ = some (.int .i64 x118001_2) := (blk_cell BK117.out 1).trans rfl
      have hcz37_2 : wc.cell? ⟨gb117, 2, none⟩ = some (.int .i64 x118002_2) := (blk_cell BK117.out 2).trans rfl
      have hfz37_0 := blk_frozen BK117.out 0
      have hfz37_1 := blk_frozen BK117.out 1
      have hfz37_2 := blk_frozen BK117.out 2
      have hnb38 := NB116_118.out
      have hnc38 := NB118_116.out
      have hcz39_0 : wc.cell? ⟨gb116, 0, none⟩ = some (.int .i64 x117000_2) := (blk_cell BK116.out 0).trans rfl
      have hcz39_1 : wc.cell? ⟨gb116, 1, none⟩ = some (.int .i64 x117001_2) := (blk_cell BK116.out 1).trans rfl
      have hcz39_2 : wc.cell? ⟨gb116, 2, none⟩ = some (.int .i64 x117002_2) := (blk_cell BK116.out 2).trans rfl
      have hfz39_0 := blk_frozen BK116.out 0
      have hfz39_1 := blk_frozen BK116.out 1
      have hfz39_2 := blk_frozen BK116.out 2
      go_wp2_with (first | (go_at_call 13; (with_reducible refine (span_Has.calls x117000_2 x117001_2 x117002_2 x118000_2 t119 _ A34.out).mono ?_); rintro e w40 ⟨rfl, hb⟩; have n0_ := Aside0.mk (bb_ BK116 hb); have n1_ := Aside0.mk (bb_ BK117 hb); have n2_ := Aside0.mk (bb_ BK118 hb); have n3_ := Aside0.mk (below_step (bl_ HB) hb); clear BK116; clear BK117; clear BK118; clear HB; have BK116 := n0_; have BK117 := n1_; have BK118 := n2_; have HB := n3_; clear n0_ n1_ n2_ n3_; (try clear hb); (try clear hb2); (try clear hk); (try clear hi)))
      repeat (go_quiet (first | (go_at_call 13; (with_reducible refine (span_Has.calls x117000_2 x117001_2 x117002_2 x118000_2 t119 _ A34.out).mono ?_); rintro e w40 ⟨rfl, hb⟩; have n0_ := Aside0.mk (bb_ BK116 hb); have n1_ := Aside0.mk (bb_ BK117 hb); have n2_ := Aside0.mk (bb_ BK118 hb); have n3_ := Aside0.mk (below_step (bl_ HB) hb); clear BK116; clear BK117; clear BK118; clear HB; have BK116 := n0_; have BK117 := n1_; have BK118 := n2_; have HB := n3_; clear n0_ n1_ n2_ n3_; (try clear hb); (try clear hb2); (try clear hk); (try clear hi))); try go_wp2_with (first | (go_at_call 13; (with_reducible refine (span_Has.calls x117000_2 x117001_2 x117002_2 x118000_2 t119 _ A34.out).mono ?_); rintro e w40 ⟨rfl, hb⟩; have n0_ := Aside0.mk (bb_ BK116 hb); have n1_ := Aside0.mk (bb_ BK117 hb); have n2_ := Aside0.mk (bb_ BK118 hb); have n3_ := Aside0.mk (below_step (bl_ HB) hb); clear BK116; clear BK117; clear BK118; clear HB; have BK116 := n0_; have BK117 := n1_; have BK118 := n2_; have HB := n3_; clear n0_ n1_ n2_ n3_; (try clear hb); (try clear hb2); (try clear hk); (try clear hi))))
      go_meet
      case rel => exact ⟨_, (!t119), (by first | rfl | (simp; done) | (simp [*]; done)), H', ⟨by have := HJ2.out; first | omega | exact Nat.le_refl _⟩, ⟨by (with_reducible repeat (first | refine blk_drewN ?_ _ | refine blk_drew ?_ | refine blk_alloc ?_ _)); exact BK116.out⟩, ⟨by (with_reducible repeat (first | refine blk_drewN ?_ _ | refine blk_drew ?_ | refine blk_alloc ?_ _)); exact BK117.out⟩, ⟨by (with_reducible repeat (first | refine blk_drewN ?_ _ | refine blk_drew ?_ | refine blk_alloc ?_ _)); exact BK118.out⟩, ⟨by repeat (first | (with_reducible first | exact HB.out | apply below_alloc | apply pw_below_drewN | apply below_drew1 | refine below_set ?_ GE116.out | refine below_set ?_ GE117.out | refine below_set ?_ GE118.out) | exact HB.out)⟩⟩
     ·rw [if_neg c33] at H
      have c33b0 : (x118002_2 == 0) = false := beq_eq_false_iff_ne.mpr c33
      have c33b1 : (x118002_2 != 0) = true := bne_iff_ne.mpr c33
      (first | rw [c33b0] | (simp only [i64_w, i32_w]; rw [c33b0]) | skip)
      have H' := Aside0.mk H
      clear H
      have hnb41 := NB117_116.out
      have hnc41 := NB116_117.out
      have hnb42 := NB117_118.out
      have hnc42 := NB118_117.out
      have hcz43_0 : wc.cell? ⟨gb117, 0, none⟩ = some (.int .i64 x118000_2) := (blk_cell BK117.out 0).trans rfl
      have hcz43_1 : wc.cell? ⟨gb117, 1, none⟩ = some (.int .i64 x118001_2) := (blk_cell BK117.out 1).trans rfl
      have hcz43_2 : wc.cell? ⟨gb117, 2, none⟩ = some (.int .i64 x118002_2) := (blk_cell BK117.out 2).trans rfl
      have hfz43_0 := blk_frozen BK117.out 0
      have hfz43_1 := blk_frozen BK117.out 1
      have hfz43_2 := blk_frozen BK117.out 2
      go_wp2
      repeat (go_quiet (fail); try go_wp2)
      go_meet
      case rel => exact ⟨_, (false), (by first | rfl | (simp; done) | (simp [*]; done)), H', ⟨by have := HJ2.out; first | omega | exact Nat.le_refl _⟩, ⟨by (with_reducible repeat (first | refine blk_drewN ?_ _ | refine blk_drew ?_ | refine blk_alloc ?_ _)); exact BK116.out⟩, ⟨by (with_reducible repeat (first | refine blk_drewN ?_ _ | refine blk_drew ?_ | refine blk_alloc ?_ _)); exact BK117.out⟩, ⟨by (with_reducible repeat (first | refine blk_drewN ?_ _ | refine blk_drew ?_ | refine blk_alloc ?_ _)); exact BK118.out⟩, ⟨by repeat (first | (with_reducible first | exact HB.out | apply below_alloc | apply pw_below_drewN | apply below_drew1 | refine below_set ?_ GE116.out | refine below_set ?_ GE117.out | refine below_set ?_ GE118.out) | exact HB.out)⟩⟩
    case rest =>
     clear HC27
     try clear c1
     try clear c2
     try clear p2
     try clear c3
     try clear c4
     try clear c7
     try clear c8
     try clear c10
     try clear c12
     try clear c12b0
     try clear c13
     try clear c14
     try clear c16
     try clear c20
     try clear c20b0
     try clear c21
     try clear c22
     try clear c24
     try clear c28
     try clear c29
     try clear c31
     try clear c33
     try clear c33b0
     try clear c33b1
     try clear c35
     try clear c36
     try clear c38
     try clear c41
     try clear c42
     try clear hcz11_0
     try clear hcz11_1
     try clear hcz11_2
     try clear hcz15_0
     try clear hcz15_1
     try clear hcz15_2
     try clear hcz17_0
     try clear hcz17_1
     try clear hcz17_2
     try clear hcz23_0
     try clear hcz23_1
     try clear hcz23_2
     try clear hcz25_0
     try clear hcz25_1
     try clear hcz25_2
     try clear hcz26_0
     try clear hcz26_1
     try clear hcz26_2
     try clear hcz30_0
     try clear hcz30_1
     try clear hcz30_2
     try clear hcz32_0
     try clear hcz32_1
     try clear hcz32_2
     try clear hcz37_0
     try clear hcz37_1
     try clear hcz37_2
     try clear hcz39_0
     try clear hcz39_1
     try clear hcz39_2
     try clear hcz43_0
     try clear hcz43_1
     try clear hcz43_2
     try clear hcz9_0
     try clear hcz9_1
     try clear hcz9_2
     try clear hfz11_0
     try clear hfz11_1
     try clear hfz11_2
     try clear hfz15_0
     try clear hfz15_1
     try clear hfz15_2
     try clear hfz17_0
     try clear hfz17_1
     try clear hfz17_2
     try clear hfz23_0
     try clear hfz23_1
     try clear hfz23_2
     try clear hfz25_0
     try clear hfz25_1
     try clear hfz25_2
     try clear hfz26_0
     try clear hfz26_1
     try clear hfz26_2
     try clear hfz30_0
     try clear hfz30_1
     try clear hfz30_2
     try clear hfz32_0
     try clear hfz32_1
     try clear hfz32_2
     try clear hfz37_0
     try clear hfz37_1
     try clear hfz37_2
     try clear hfz39_0
     try clear hfz39_1
     try clear hfz39_2
     try clear hfz43_0
     try clear hfz43_1
     try clear hfz43_2
     try clear hfz9_0
     try clear hfz9_1
     try clear hfz9_2
     try clear p2
     obtain ⟨kq, x45_26, rfl, HA, HJ26, BK116, BK117, BK118, HB⟩ := hcut
     cases kq with
     | zero => exact absurd HA.out (by simp [span_Meet.j1])
     | succ kj26 =>
      have H := HA.out
      clear HA
      simp only [span_Meet.j1] at H
      by_cases c44 : x45_26 = true
      ·subst c44
       have H1 : (some (0, 0, 0, false)) = some (r1, r2, r3, r4) := by rw [if_pos rfl] at H; exact H
       clear H
       have H := H1
       clear H1
       simp only [Option.some.injEq, Prod.mk.injEq] at H
       obtain ⟨rfl, rfl, rfl, rfl⟩ := H
       have hnb45 := NB118_116.out
       have hnc45 := NB116_118.out
       have hnb46 := NB118_117.out
       have hnc46 := NB117_118.out
       have hcz47_0 : wc.cell? ⟨gb118, 0, none⟩ = some (.int .i64 0) := (blk_cell BK118.out 0).trans rfl
       have hcz47_1 : wc.cell? ⟨gb118, 1, none⟩ = some (.int .i64 0) := (blk_cell BK118.out 1).trans rfl
       have hcz47_2 : wc.cell? ⟨gb118, 2, none⟩ = some (.int .i64 0) := (blk_cell BK118.out 2).trans rfl
       have hfz47_0 := blk_frozen BK118.out 0
       have hfz47_1 := blk_frozen BK118.out 1
       have hfz47_2 := blk_frozen BK118.out 2
       go_wp2
       repeat (go_quiet (fail); try go_wp2)
       refine bodyPost_ret (results_ct rfl _ _ gb118 28 #[.int .i64 0, .int .i64 0, .int .i64 0] (0, 0) _ rfl (by (with_reducible repeat (first | refine blk_drewN ?_ _ | refine blk_drew ?_ | refine blk_alloc ?_ _)); refine blk_put (cs := #[.int .i64 0, .int .i64 0, .int .i64 0]) ?_ 2 _ rfl; (with_reducible repeat (first | refine blk_drewN ?_ _ | refine blk_drew ?_ | refine blk_alloc ?_ _)); refine blk_put (cs := #[.int .i64 0, .int .i64 0, .int .i64 0]) ?_ 1 _ rfl; (with_reducible repeat (first | refine blk_drewN ?_ _ | refine blk_drew ?_ | refine blk_alloc ?_ _)); refine blk_put (cs := #[.int .i64 0, .int .i64 0, .int .i64 0]) ?_ 0 _ rfl; (with_reducible repeat (first | refine blk_drewN ?_ _ | refine blk_drew ?_ | refine blk_alloc ?_ _)); exact BK118.out) Try.underlying28 rfl (by kernel_rfl)) rfl ?_
       exact ⟨by first | rfl | (simp [errW_none, errW_some] <;> rfl) | (simp only [← hji18, ← hji19]; first | rfl | (simp [errW_none, errW_some] <;> rfl)) | (simp [*, errW_none, errW_some] <;> rfl), by repeat (first | (with_reducible first | exact HB.out | apply below_alloc | apply pw_below_drewN | apply below_drew1 | refine below_set ?_ GE116.out | refine below_set ?_ GE117.out | refine below_set ?_ GE118.out) | exact HB.out)⟩
      ·replace c44 := Bool.eq_false_iff.mpr c44
       subst c44
       have H1 : (if x118002_2 = 0 then (some (x118000_2, x118001_2, x118002_2, true)) else ((span_euclid.f kj26 x117002_2 x118002_2).bind fun bt120 => (if bt120.1 = 0 then (none) else (if (Int.tmod (wrap64 (x118000_2 - x117000_2)) bt120.1) = 0 then (span_Meet.j2 kj26 ji18 ji19 bt120.1 x117000_2 x117001_2 x117002_2 x118000_2 x118001_2 x118002_2 bt120.1 bt120.2.1 bt120.2.2) else (some (0, 0, 0, false)))))) = some (r1, r2, r3, r4) := by rw [if_neg (show ¬ (false = true) by decide)] at H; exact H
       clear H
       have H := H1
       clear H1
       by_cases c48 : x118002_2 = 0
       ·rw [if_pos c48] at H
        have c48b0 : (x118002_2 == 0) = true := beq_iff_eq.mpr c48
        have c48b1 : (x118002_2 != 0) = false := bne_eq_false_iff_eq.mpr c48
        clear c48
        simp only [Option.some.injEq, Prod.mk.injEq] at H
        obtain ⟨rfl, rfl, rfl, rfl⟩ := H
        have hnb49 := NB117_116.out
        have hnc49 := NB116_117.out
        have hnb50 := NB117_118.out
        have hnc50 := NB118_117.out
        have hcz51_0 : wc.cell? ⟨gb117, 0, none⟩ = some (.int .i64 x118000_2) := (blk_cell BK117.out 0).trans rfl
        have hcz51_1 : wc.cell? ⟨gb117, 1, none⟩ = some (.int .i64 x118001_2) := (blk_cell BK117.out 1).trans rfl
        have hcz51_2 : wc.cell? ⟨gb117, 2, none⟩ = some (.int .i64 x118002_2) := (blk_cell BK117.out 2).trans rfl
        have hfz51_0 := blk_frozen BK117.out 0
        have hfz51_1 := blk_frozen BK117.out 1
        have hfz51_2 := blk_frozen BK117.out 2
        have hnb52 := NB118_116.out
        have hnc52 := NB116_118.out
        have hcz53_0 : wc.cell? ⟨gb118, 0, none⟩ = some (.int .i64 0) := (blk_cell BK118.out 0).trans rfl
        have hcz53_1 : wc.cell? ⟨gb118, 1, none⟩ = some (.int .i64 0) := (blk_cell BK118.out 1).trans rfl
        have hcz53_2 : wc.cell? ⟨gb118, 2, none⟩ = some (.int .i64 0) := (blk_cell BK118.out 2).trans rfl
        have hfz53_0 := blk_frozen BK118.out 0
        have hfz53_1 := blk_frozen BK118.out 1
        have hfz53_2 := blk_frozen BK118.out 2
        go_wp2
        repeat (go_quiet (fail); try go_wp2)
        refine bodyPost_ret (results_ct rfl _ _ gb118 28 #[.int .i64 x118000_2, .int .i64 x118001_2, .int .i64 x118002_2] (0, 0) _ rfl (by (with_reducible repeat (first | refine blk_drewN ?_ _ | refine blk_drew ?_ | refine blk_alloc ?_ _)); refine blk_put (cs := #[.int .i64 x118000_2, .int .i64 x118001_2, .int .i64 0]) ?_ 2 _ rfl; (with_reducible repeat (first | refine blk_drewN ?_ _ | refine blk_drew ?_ | refine blk_alloc ?_ _)); refine blk_put (cs := #[.int .i64 x118000_2, .int .i64 0, .int .i64 0]) ?_ 1 _ rfl; (with_reducible repeat (first | refine blk_drewN ?_ _ | refine blk_drew ?_ | refine blk_alloc ?_ _)); refine blk_put (cs := #[.int .i64 0, .int .i64 0, .int .i64 0]) ?_ 0 _ rfl; (with_reducible repeat (first | refine blk_drewN ?_ _ | refine blk_drew ?_ | refine blk_alloc ?_ _)); exact BK118.out) Try.underlying28 rfl (by kernel_rfl)) rfl ?_
        exact ⟨by first | rfl | (simp [errW_none, errW_some] <;> rfl) | (simp only [← hji18, ← hji19]; first | rfl | (simp [errW_none, errW_some] <;> rfl)) | (simp [*, errW_none, errW_some] <;> rfl), by repeat (first | (with_reducible first | exact HB.out | apply below_alloc | apply pw_below_drewN | apply below_drew1 | refine below_set ?_ GE116.out | refine below_set ?_ GE117.out | refine below_set ?_ GE118.out) | exact HB.out)⟩
       ·rw [if_neg c48] at H
        have c48b0 : (x118002_2 == 0) = false := beq_eq_false_iff_ne.mpr c48
        have c48b1 : (x118002_2 != 0) = true := bne_iff_ne.mpr c48
        replace H := Option.bind_eq_some_iff.mp H
        obtain ⟨⟨t120, t121, t122⟩, A540, H⟩ := H
        replace H : (if t120 = 0 then (none) else (if (Int.tmod (wrap64 (x118000_2 - x117000_2)) t120) = 0 then (span_Meet.j2 kj26 ji18 ji19 t120 x117000_2 x117001_2 x117002_2 x118000_2 x118001_2 x118002_2 t120 t121 t122) else (some (0, 0, 0, false)))) = some (r1, r2, r3, r4) := H
        have A54 := Aside0.mk A540
        clear A540
        by_cases c55 : t120 = 0
        ·rw [if_pos c55] at H
         exact absurd H (by simp)
        ·rw [if_neg c55] at H
         have c55b0 : (t120 == 0) = false := beq_eq_false_iff_ne.mpr c55
         have c55b1 : (t120 != 0) = true := bne_iff_ne.mpr c55
         have HC56 := Aside0.mk H
         clear H
         have hnb57 := NB117_116.out
         have hnc57 := NB116_117.out
         have hnb58 := NB117_118.out
         have hnc58 := NB118_117.out
         have hcz59_0 : wc.cell? ⟨gb117, 0, none⟩ = some (.int .i64 x118000_2) := (blk_cell BK117.out 0).trans rfl
         have hcz59_1 : wc.cell? ⟨gb117, 1, none⟩ = some (.int .i64 x118001_2) := (blk_cell BK117.out 1).trans rfl
         have hcz59_2 : wc.cell? ⟨gb117, 2, none⟩ = some (.int .i64 x118002_2) := (blk_cell BK117.out 2).trans rfl
         have hfz59_0 := blk_frozen BK117.out 0
         have hfz59_1 := blk_frozen BK117.out 1
         have hfz59_2 := blk_frozen BK117.out 2
         have hnb60 := NB116_118.out
         have hnc60 := NB118_116.out
         have hcz61_0 : wc.cell? ⟨gb116, 0, none⟩ = some (.int .i64 x117000_2) := (blk_cell BK116.out 0).trans rfl
         have hcz61_1 : wc.cell? ⟨gb116, 1, none⟩ = some (.int .i64 x117001_2) := (blk_cell BK116.out 1).trans rfl
         have hcz61_2 : wc.cell? ⟨gb116, 2, none⟩ = some (.int .i64 x117002_2) := (blk_cell BK116.out 2).trans rfl
         have hfz61_0 := blk_frozen BK116.out 0
         have hfz61_1 := blk_frozen BK116.out 1
         have hfz61_2 := blk_frozen BK116.out 2
         go_upto_if 65 with (first | (go_at_call 58; (with_reducible refine (span_euclid.calls kj26 x117002_2 x118002_2 t120 t121 t122 _ A54.out).mono ?_); rintro e w62 ⟨rfl, hb⟩; have n0_ := Aside0.mk (bb_ BK116 hb); have n1_ := Aside0.mk (bb_ BK117 hb); have n2_ := Aside0.mk (bb_ BK118 hb); have n3_ := Aside0.mk (below_step (bl_ HB) hb); clear BK116; clear BK117; clear BK118; clear HB; have BK116 := n0_; have BK117 := n1_; have BK118 := n2_; have HB := n3_; clear n0_ n1_ n2_ n3_; (try clear hb); (try clear hb2); (try clear hk); (try clear hi)) | ((with_reducible refine gate_dst (N := 8) rfl ?_); refine box_event ?hg (N := 8) ?hd (cs := #[.int .i64 0, .int .i64 0, .int .i64 0]) (t := 51) ?hr ?_; (case hd => rfl); (case hg => rfl); (case hr => first | (go_simp; done) | (go_simp; rfl)); intro gb123 hg w63 hbox hb; have n0_ := Aside0.mk (bb_ BK116 hb); have n1_ := Aside0.mk (bb_ BK117 hb); have n2_ := Aside0.mk (bb_ BK118 hb); have n3_ := Aside0.mk (below_step (bl_ HB) hb); have n4_ := Aside0.mk (hbox); have n5_ := Aside0.mk ((by rw [hg]; exact (below_size (bl_ HB)) : w.heap.size ≤ gb123)); have n6_ := Aside0.mk ((by rw [hg]; exact (below_size (bl_ HB)) : w.heap.size ≤ gb123)); have n7_ := Aside0.mk (nl_ hg BK116); have n8_ := Aside0.mk (ng_ hg BK116); have n9_ := Aside0.mk (nl_ hg BK117); have n10_ := Aside0.mk (ng_ hg BK117); have n11_ := Aside0.mk (nl_ hg BK118); have n12_ := Aside0.mk (ng_ hg BK118); clear BK116; clear BK117; clear BK118; clear HB; have BK116 := n0_; have BK117 := n1_; have BK118 := n2_; have HB := n3_; have BK123 := n4_; have GW123 := n5_; have GE123 := n6_; have NB116_123 := n7_; have NB123_116 := n8_; have NB117_123 := n9_; have NB123_117 := n10_; have NB118_123 := n11_; have NB123_118 := n12_; clear n0_ n1_ n2_ n3_ n4_ n5_ n6_ n7_ n8_ n9_ n10_ n11_ n12_; clear hb hbox hg; have hnb64 := NB123_116.out; have hnc64 := NB116_123.out; have hnb65 := NB123_117.out; have hnc65 := NB117_123.out; have hnb66 := NB123_118.out; have hnc66 := NB118_123.out; have hcz67_0 : w63.cell? ⟨gb123, 0, none⟩ = some (.int .i64 0) := (blk_cell BK123.out 0).trans rfl; have hcz67_1 : w63.cell? ⟨gb123, 1, none⟩ = some (.int .i64 0) := (blk_cell BK123.out 1).trans rfl; have hcz67_2 : w63.cell? ⟨gb123, 2, none⟩ = some (.int .i64 0) := (blk_cell BK123.out 2).trans rfl; have hfz67_0 := blk_frozen BK123.out 0; have hfz67_1 := blk_frozen BK123.out 1; have hfz67_2 := blk_frozen BK123.out 2; have hcz68_0 : w63.cell? ⟨gb117, 0, none⟩ = some (.int .i64 x118000_2) := (blk_cell BK117.out 0).trans rfl; have hcz68_1 : w63.cell? ⟨gb117, 1, none⟩ = some (.int .i64 x118001_2) := (blk_cell BK117.out 1).trans rfl; have hcz68_2 : w63.cell? ⟨gb117, 2, none⟩ = some (.int .i64 x118002_2) := (blk_cell BK117.out 2).trans rfl; have hfz68_0 := blk_frozen BK117.out 0; have hfz68_1 := blk_frozen BK117.out 1; have hfz68_2 := blk_frozen BK117.out 2; have hcz69_0 : w63.cell? ⟨gb116, 0, none⟩ = some (.int .i64 x117000_2) := (blk_cell BK116.out 0).trans rfl; have hcz69_1 : w63.cell? ⟨gb116, 1, none⟩ = some (.int .i64 x117001_2) := (blk_cell BK116.out 1).trans rfl; have hcz69_2 : w63.cell? ⟨gb116, 2, none⟩ = some (.int .i64 x117002_2) := (blk_cell BK116.out 2).trans rfl; have hfz69_0 := blk_frozen BK116.out 0; have hfz69_1 := blk_frozen BK116.out 1; have hfz69_2 := blk_frozen BK116.out 2))
         repeat (go_quiet (first | (go_at_call 58; (with_reducible refine (span_euclid.calls kj26 x117002_2 x118002_2 t120 t121 t122 _ A54.out).mono ?_); rintro e w62 ⟨rfl, hb⟩; have n0_ := Aside0.mk (bb_ BK116 hb); have n1_ := Aside0.mk (bb_ BK117 hb); have n2_ := Aside0.mk (bb_ BK118 hb); have n3_ := Aside0.mk (below_step (bl_ HB) hb); clear BK116; clear BK117; clear BK118; clear HB; have BK116 := n0_; have BK117 := n1_; have BK118 := n2_; have HB := n3_; clear n0_ n1_ n2_ n3_; (try clear hb); (try clear hb2); (try clear hk); (try clear hi)) | ((with_reducible refine gate_dst (N := 8) rfl ?_); refine box_event ?hg (N := 8) ?hd (cs := #[.int .i64 0, .int .i64 0, .int .i64 0]) (t := 51) ?hr ?_; (case hd => rfl); (case hg => rfl); (case hr => first | (go_simp; done) | (go_simp; rfl)); intro gb123 hg w63 hbox hb; have n0_ := Aside0.mk (bb_ BK116 hb); have n1_ := Aside0.mk (bb_ BK117 hb); have n2_ := Aside0.mk (bb_ BK118 hb); have n3_ := Aside0.mk (below_step (bl_ HB) hb); have n4_ := Aside0.mk (hbox); have n5_ := Aside0.mk ((by rw [hg]; exact (below_size (bl_ HB)) : w.heap.size ≤ gb123)); have n6_ := Aside0.mk ((by rw [hg]; exact (below_size (bl_ HB)) : w.heap.size ≤ gb123)); have n7_ := Aside0.mk (nl_ hg BK116); have n8_ := Aside0.mk (ng_ hg BK116); have n9_ := Aside0.mk (nl_ hg BK117); have n10_ := Aside0.mk (ng_ hg BK117); have n11_ := Aside0.mk (nl_ hg BK118); have n12_ := Aside0.mk (ng_ hg BK118); clear BK116; clear BK117; clear BK118; clear HB; have BK116 := n0_; have BK117 := n1_; have BK118 := n2_; have HB := n3_; have BK123 := n4_; have GW123 := n5_; have GE123 := n6_; have NB116_123 := n7_; have NB123_116 := n8_; have NB117_123 := n9_; have NB123_117 := n10_; have NB118_123 := n11_; have NB123_118 := n12_; clear n0_ n1_ n2_ n3_ n4_ n5_ n6_ n7_ n8_ n9_ n10_ n11_ n12_; clear hb hbox hg; have hnb64 := NB123_116.out; have hnc64 := NB116_123.out; have hnb65 := NB123_117.out; have hnc65 := NB117_123.out; have hnb66 := NB123_118.out; have hnc66 := NB118_123.out; have hcz67_0 : w63.cell? ⟨gb123, 0, none⟩ = some (.int .i64 0) := (blk_cell BK123.out 0).trans rfl; have hcz67_1 : w63.cell? ⟨gb123, 1, none⟩ = some (.int .i64 0) := (blk_cell BK123.out 1).trans rfl; have hcz67_2 : w63.cell? ⟨gb123, 2, none⟩ = some (.int .i64 0) := (blk_cell BK123.out 2).trans rfl; have hfz67_0 := blk_frozen BK123.out 0; have hfz67_1 := blk_frozen BK123.out 1; have hfz67_2 := blk_frozen BK123.out 2; have hcz68_0 : w63.cell? ⟨gb117, 0, none⟩ = some (.int .i64 x118000_2) := (blk_cell BK117.out 0).trans rfl; have hcz68_1 : w63.cell? ⟨gb117, 1, none⟩ = some (.int .i64 x118001_2) := (blk_cell BK117.out 1).trans rfl; have hcz68_2 : w63.cell? ⟨gb117, 2, none⟩ = some (.int .i64 x118002_2) := (blk_cell BK117.out 2).trans rfl; have hfz68_0 := blk_frozen BK117.out 0; have hfz68_1 := blk_frozen BK117.out 1; have hfz68_2 := blk_frozen BK117.out 2; have hcz69_0 : w63.cell? ⟨gb116, 0, none⟩ = some (.int .i64 x117000_2) := (blk_cell BK116.out 0).trans rfl; have hcz69_1 : w63.cell? ⟨gb116, 1, none⟩ = some (.int .i64 x117001_2) := (blk_cell BK116.out 1).trans rfl; have hcz69_2 : w63.cell? ⟨gb116, 2, none⟩ = some (.int .i64 x117002_2) := (blk_cell BK116.out 2).trans rfl; have hfz69_0 := blk_frozen BK116.out 0; have hfz69_1 := blk_frozen BK116.out 1; have hfz69_2 := blk_frozen BK116.out 2)); go_upto_if 65 with (first | (go_at_call 58; (with_reducible refine (span_euclid.calls kj26 x117002_2 x118002_2 t120 t121 t122 _ A54.out).mono ?_); rintro e w62 ⟨rfl, hb⟩; have n0_ := Aside0.mk (bb_ BK116 hb); have n1_ := Aside0.mk (bb_ BK117 hb); have n2_ := Aside0.mk (bb_ BK118 hb); have n3_ := Aside0.mk (below_step (bl_ HB) hb); clear BK116; clear BK117; clear BK118; clear HB; have BK116 := n0_; have BK117 := n1_; have BK118 := n2_; have HB := n3_; clear n0_ n1_ n2_ n3_; (try clear hb); (try clear hb2); (try clear hk); (try clear hi)) | ((with_reducible refine gate_dst (N := 8) rfl ?_); refine box_event ?hg (N := 8) ?hd (cs := #[.int .i64 0, .int .i64 0, .int .i64 0]) (t := 51) ?hr ?_; (case hd => rfl); (case hg => rfl); (case hr => first | (go_simp; done) | (go_simp; rfl)); intro gb123 hg w63 hbox hb; have n0_ := Aside0.mk (bb_ BK116 hb); have n1_ := Aside0.mk (bb_ BK117 hb); have n2_ := Aside0.mk (bb_ BK118 hb); have n3_ := Aside0.mk (below_step (bl_ HB) hb); have n4_ := Aside0.mk (hbox); have n5_ := Aside0.mk ((by rw [hg]; exact (below_size (bl_ HB)) : w.heap.size ≤ gb123)); have n6_ := Aside0.mk ((by rw [hg]; exact (below_size (bl_ HB)) : w.heap.size ≤ gb123)); have n7_ := Aside0.mk (nl_ hg BK116); have n8_ := Aside0.mk (ng_ hg BK116); have n9_ := Aside0.mk (nl_ hg BK117); have n10_ := Aside0.mk (ng_ hg BK117); have n11_ := Aside0.mk (nl_ hg BK118); have n12_ := Aside0.mk (ng_ hg BK118); clear BK116; clear BK117; clear BK118; clear HB; have BK116 := n0_; have BK117 := n1_; have BK118 := n2_; have HB := n3_; have BK123 := n4_; have GW123 := n5_; have GE123 := n6_; have NB116_123 := n7_; have NB123_116 := n8_; have NB117_123 := n9_; have NB123_117 := n10_; have NB118_123 := n11_; have NB123_118 := n12_; clear n0_ n1_ n2_ n3_ n4_ n5_ n6_ n7_ n8_ n9_ n10_ n11_ n12_; clear hb hbox hg; have hnb64 := NB123_116.out; have hnc64 := NB116_123.out; have hnb65 := NB123_117.out; have hnc65 := NB117_123.out; have hnb66 := NB123_118.out; have hnc66 := NB118_123.out; have hcz67_0 : w63.cell? ⟨gb123, 0, none⟩ = some (.int .i64 0) := (blk_cell BK123.out 0).trans rfl; have hcz67_1 : w63.cell? ⟨gb123, 1, none⟩ = some (.int .i64 0) := (blk_cell BK123.out 1).trans rfl; have hcz67_2 : w63.cell? ⟨gb123, 2, none⟩ = some (.int .i64 0) := (blk_cell BK123.out 2).trans rfl; have hfz67_0 := blk_frozen BK123.out 0; have hfz67_1 := blk_frozen BK123.out 1; have hfz67_2 := blk_frozen BK123.out 2; have hcz68_0 : w63.cell? ⟨gb117, 0, none⟩ = some (.int .i64 x118000_2) := (blk_cell BK117.out 0).trans rfl; have hcz68_1 : w63.cell? ⟨gb117, 1, none⟩ = some (.int .i64 x118001_2) := (blk_cell BK117.out 1).trans rfl; have hcz68_2 : w63.cell? ⟨gb117, 2, none⟩ = some (.int .i64 x118002_2) := (blk_cell BK117.out 2).trans rfl; have hfz68_0 := blk_frozen BK117.out 0; have hfz68_1 := blk_frozen BK117.out 1; have hfz68_2 := blk_frozen BK117.out 2; have hcz69_0 : w63.cell? ⟨gb116, 0, none⟩ = some (.int .i64 x117000_2) := (blk_cell BK116.out 0).trans rfl; have hcz69_1 : w63.cell? ⟨gb116, 1, none⟩ = some (.int .i64 x117001_2) := (blk_cell BK116.out 1).trans rfl; have hcz69_2 : w63.cell? ⟨gb116, 2, none⟩ = some (.int .i64 x117002_2) := (blk_cell BK116.out 2).trans rfl; have hfz69_0 := blk_frozen BK116.out 0; have hfz69_1 := blk_frozen BK116.out 1; have hfz69_2 := blk_frozen BK116.out 2)))
         (try simp only [Act.put, List.setIfInBounds_toArray, List.set_cons_zero, List.set_cons_succ])
         go_cut [] (fun wc => ∃ (kq : Nat) (x119000_55 : Int) (x119001_55 : Int) (x119002_55 : Int), Aside0 (span_Meet.j2 kq ji18 ji19 t120 x117000_2 x117001_2 x117002_2 x118000_2 x118001_2 x118002_2 t120 t121 t122 = some (r1, r2, r3, r4)) ∧ Aside0 (kq ≤ kj26) ∧ Aside0 (wc.heap[gb116]? = some (.cells #[.int .i64 x117000_2, .int .i64 x117001_2, .int .i64 x117002_2] 28 (0, 0))) ∧ Aside0 (wc.heap[gb117]? = some (.cells #[.int .i64 x118000_2, .int .i64 x118001_2, .int .i64 x118002_2] 28 (0, 0))) ∧ Aside0 (wc.heap[gb118]? = some (.cells #[.int .i64 x119000_55, .int .i64 x119001_55, .int .i64 x119002_55] 28 (0, 0))) ∧ Aside0 (wc.heap[gb123]? = some (.cells #[.int .i64 t120, .int .i64 t121, .int .i64 t122] 51 (0, 0))) ∧ Aside0 (Below w.heap.size w wc))
         case first =>
          have H := HC56.out
          clear HC56
          by_cases c70 : (Int.tmod (wrap64 (x118000_2 - x117000_2)) t120) = 0
          ·rw [if_pos c70] at H
           have c70b0 : ((Int.tmod (wrap64 (x118000_2 - x117000_2)) t120) == 0) = true := beq_iff_eq.mpr c70
           have c70b1 : ((Int.tmod (wrap64 (x118000_2 - x117000_2)) t120) != 0) = false := bne_eq_false_iff_eq.mpr c70
           clear c70
           (first | rw [c70b0] | (simp only [i64_w, i32_w]; rw [c70b0]) | skip)
           have H' := Aside0.mk H
           clear H
           go_wp2
           repeat (go_quiet (fail); try go_wp2)
           go_meet
           case rel => exact ⟨_, (0), (0), (0), H', ⟨by have := HJ2.out; have := HJ26.out; first | omega | exact Nat.le_refl _⟩, ⟨by (with_reducible repeat (first | refine blk_drewN ?_ _ | refine blk_drew ?_ | refine blk_alloc ?_ _)); refine blk_far ?_ NB116_123.out _; (with_reducible repeat (first | refine blk_drewN ?_ _ | refine blk_drew ?_ | refine blk_alloc ?_ _)); refine blk_far ?_ NB116_123.out _; (with_reducible repeat (first | refine blk_drewN ?_ _ | refine blk_drew ?_ | refine blk_alloc ?_ _)); refine blk_far ?_ NB116_123.out _; (with_reducible repeat (first | refine blk_drewN ?_ _ | refine blk_drew ?_ | refine blk_alloc ?_ _)); exact BK116.out⟩, ⟨by (with_reducible repeat (first | refine blk_drewN ?_ _ | refine blk_drew ?_ | refine blk_alloc ?_ _)); refine blk_far ?_ NB117_123.out _; (with_reducible repeat (first | refine blk_drewN ?_ _ | refine blk_drew ?_ | refine blk_alloc ?_ _)); refine blk_far ?_ NB117_123.out _; (with_reducible repeat (first | refine blk_drewN ?_ _ | refine blk_drew ?_ | refine blk_alloc ?_ _)); refine blk_far ?_ NB117_123.out _; (with_reducible repeat (first | refine blk_drewN ?_ _ | refine blk_drew ?_ | refine blk_alloc ?_ _)); exact BK117.out⟩, ⟨by (with_reducible repeat (first | refine blk_drewN ?_ _ | refine blk_drew ?_ | refine blk_alloc ?_ _)); refine blk_far ?_ NB118_123.out _; (with_reducible repeat (first | refine blk_drewN ?_ _ | refine blk_drew ?_ | refine blk_alloc ?_ _)); refine blk_far ?_ NB118_123.out _; (with_reducible repeat (first | refine blk_drewN ?_ _ | refine blk_drew ?_ | refine blk_alloc ?_ _)); refine blk_far ?_ NB118_123.out _; (with_reducible repeat (first | refine blk_drewN ?_ _ | refine blk_drew ?_ | refine blk_alloc ?_ _)); exact BK118.out⟩, ⟨by (with_reducible repeat (first | refine blk_drewN ?_ _ | refine blk_drew ?_ | refine blk_alloc ?_ _)); refine blk_put (cs := #[.int .i64 t120, .int .i64 t121, .int .i64 0]) ?_ 2 _ rfl; (with_reducible repeat (first | refine blk_drewN ?_ _ | refine blk_drew ?_ | refine blk_alloc ?_ _)); refine blk_put (cs := #[.int .i64 t120, .int .i64 0, .int .i64 0]) ?_ 1 _ rfl; (with_reducible repeat (first | refine blk_drewN ?_ _ | refine blk_drew ?_ | refine blk_alloc ?_ _)); refine blk_put (cs := #[.int .i64 0, .int .i64 0, .int .i64 0]) ?_ 0 _ rfl; (with_reducible repeat (first | refine blk_drewN ?_ _ | refine blk_drew ?_ | refine blk_alloc ?_ _)); exact BK123.out⟩, ⟨by repeat (first | (with_reducible first | exact HB.out | apply below_alloc | apply pw_below_drewN | apply below_drew1 | refine below_set ?_ GE116.out | refine below_set ?_ GE117.out | refine below_set ?_ GE118.out | refine below_set ?_ GE123.out) | exact HB.out)⟩⟩
          ·rw [if_neg c70] at H
           have c70b0 : ((Int.tmod (wrap64 (x118000_2 - x117000_2)) t120) == 0) = false := beq_eq_false_iff_ne.mpr c70
           have c70b1 : ((Int.tmod (wrap64 (x118000_2 - x117000_2)) t120) != 0) = true := bne_iff_ne.mpr c70
           (first | rw [c70b0] | (simp only [i64_w, i32_w]; rw [c70b0]) | skip)
           simp only [Option.some.injEq, Prod.mk.injEq] at H
           obtain ⟨rfl, rfl, rfl, rfl⟩ := H
           have hnb71 := NB118_116.out
           have hnc71 := NB116_118.out
           have hnb72 := NB118_117.out
           have hnc72 := NB117_118.out
           have hnb73 := NB118_123.out
           have hnc73 := NB123_118.out
           have hcz74_0 : w63.cell? ⟨gb118, 0, none⟩ = some (.int .i64 0) := (blk_cell BK118.out 0).trans rfl
           have hcz74_1 : w63.cell? ⟨gb118, 1, none⟩ = some (.int .i64 0) := (blk_cell BK118.out 1).trans rfl
           have hcz74_2 : w63.cell? ⟨gb118, 2, none⟩ = some (.int .i64 0) := (blk_cell BK118.out 2).trans rfl
           have hfz74_0 := blk_frozen BK118.out 0
           have hfz74_1 := blk_frozen BK118.out 1
           have hfz74_2 := blk_frozen BK118.out 2
           go_wp2
           repeat (go_quiet (fail); try go_wp2)
           refine bodyPost_ret (results_ct rfl _ _ gb118 28 #[.int .i64 0, .int .i64 0, .int .i64 0] (0, 0) _ rfl (by (with_reducible repeat (first | refine blk_drewN ?_ _ | refine blk_drew ?_ | refine blk_alloc ?_ _)); refine blk_put (cs := #[.int .i64 0, .int .i64 0, .int .i64 0]) ?_ 2 _ rfl; (with_reducible repeat (first | refine blk_drewN ?_ _ | refine blk_drew ?_ | refine blk_alloc ?_ _)); refine blk_put (cs := #[.int .i64 0, .int .i64 0, .int .i64 0]) ?_ 1 _ rfl; (with_reducible repeat (first | refine blk_drewN ?_ _ | refine blk_drew ?_ | refine blk_alloc ?_ _)); refine blk_put (cs := #[.int .i64 0, .int .i64 0, .int .i64 0]) ?_ 0 _ rfl; (with_reducible repeat (first | refine blk_drewN ?_ _ | refine blk_drew ?_ | refine blk_alloc ?_ _)); refine blk_far ?_ NB118_123.out _; (with_reducible repeat (first | refine blk_drewN ?_ _ | refine blk_drew ?_ | refine blk_alloc ?_ _)); refine blk_far ?_ NB118_123.out _; (with_reducible repeat (first | refine blk_drewN ?_ _ | refine blk_drew ?_ | refine blk_alloc ?_ _)); refine blk_far ?_ NB118_123.out _; (with_reducible repeat (first | refine blk_drewN ?_ _ | refine blk_drew ?_ | refine blk_alloc ?_ _)); exact BK118.out) Try.underlying28 rfl (by kernel_rfl)) rfl ?_
           exact ⟨by first | rfl | (simp [errW_none, errW_some] <;> rfl) | (simp only [← hji18, ← hji19]; first | rfl | (simp [errW_none, errW_some] <;> rfl)) | (simp [*, errW_none, errW_some] <;> rfl), by repeat (first | (with_reducible first | exact HB.out | apply below_alloc | apply pw_below_drewN | apply below_drew1 | refine below_set ?_ GE116.out | refine below_set ?_ GE117.out | refine below_set ?_ GE118.out | refine below_set ?_ GE123.out) | exact HB.out)⟩
         case rest =>
          clear HC56
          try clear c1
          try clear c2
          try clear p2
          try clear c3
          try clear c4
          try clear c5
          try clear c6
          try clear p6
          try clear c7
          try clear c8
          try clear c10
          try clear c12
          try clear c12b0
          try clear c13
          try clear c14
          try clear c16
          try clear c20
          try clear c20b0
          try clear c21
          try clear c22
          try clear c24
          try clear c28
          try clear c29
          try clear c31
          try clear c33
          try clear c33b0
          try clear c33b1
          try clear c35
          try clear c36
          try clear c38
          try clear c41
          try clear c42
          try clear c44
          try clear c45
          try clear c46
          try clear c48
          try clear c48b0
          try clear c48b1
          try clear c49
          try clear c50
          try clear c52
          try clear c55
          try clear c55b0
          try clear c55b1
          try clear c57
          try clear c58
          try clear c60
          try clear c64
          try clear p64
          try clear c65
          try clear c66
          try clear c70
          try clear c70b0
          try clear c70b1
          try clear c71
          try clear c72
          try clear c73
          try clear hcz11_0
          try clear hcz11_1
          try clear hcz11_2
          try clear hcz15_0
          try clear hcz15_1
          try clear hcz15_2
          try clear hcz17_0
          try clear hcz17_1
          try clear hcz17_2
          try clear hcz23_0
          try clear hcz23_1
          try clear hcz23_2
          try clear hcz25_0
          try clear hcz25_1
          try clear hcz25_2
          try clear hcz26_0
          try clear hcz26_1
          try clear hcz26_2
          try clear hcz30_0
          try clear hcz30_1
          try clear hcz30_2
          try clear hcz32_0
          try clear hcz32_1
          try clear hcz32_2
          try clear hcz37_0
          try clear hcz37_1
          try clear hcz37_2
          try clear hcz39_0
          try clear hcz39_1
          try clear hcz39_2
          try clear hcz43_0
          try clear hcz43_1
          try clear hcz43_2
          try clear hcz47_0
          try clear hcz47_1
          try clear hcz47_2
          try clear hcz51_0
          try clear hcz51_1
          try clear hcz51_2
          try clear hcz53_0
          try clear hcz53_1
          try clear hcz53_2
          try clear hcz59_0
          try clear hcz59_1
          try clear hcz59_2
          try clear hcz61_0
          try clear hcz61_1
          try clear hcz61_2
          try clear hcz67_0
          try clear hcz67_1
          try clear hcz67_2
          try clear hcz68_0
          try clear hcz68_1
          try clear hcz68_2
          try clear hcz69_0
          try clear hcz69_1
          try clear hcz69_2
          try clear hcz74_0
          try clear hcz74_1
          try clear hcz74_2
          try clear hcz9_0
          try clear hcz9_1
          try clear hcz9_2
          try clear hfz11_0
          try clear hfz11_1
          try clear hfz11_2
          try clear hfz15_0
          try clear hfz15_1
          try clear hfz15_2
          try clear hfz17_0
          try clear hfz17_1
          try clear hfz17_2
          try clear hfz23_0
          try clear hfz23_1
          try clear hfz23_2
          try clear hfz25_0
          try clear hfz25_1
          try clear hfz25_2
          try clear hfz26_0
          try clear hfz26_1
          try clear hfz26_2
          try clear hfz30_0
          try clear hfz30_1
          try clear hfz30_2
          try clear hfz32_0
          try clear hfz32_1
          try clear hfz32_2
          try clear hfz37_0
          try clear hfz37_1
          try clear hfz37_2
          try clear hfz39_0
          try clear hfz39_1
          try clear hfz39_2
          try clear hfz43_0
          try clear hfz43_1
          try clear hfz43_2
          try clear hfz47_0
          try clear hfz47_1
          try clear hfz47_2
          try clear hfz51_0
          try clear hfz51_1
          try clear hfz51_2
          try clear hfz53_0
          try clear hfz53_1
          try clear hfz53_2
          try clear hfz59_0
          try clear hfz59_1
          try clear hfz59_2
          try clear hfz61_0
          try clear hfz61_1
          try clear hfz61_2
          try clear hfz67_0
          try clear hfz67_1
          try clear hfz67_2
          try clear hfz68_0
          try clear hfz68_1
          try clear hfz68_2
          try clear hfz69_0
          try clear hfz69_1
          try clear hfz69_2
          try clear hfz74_0
          try clear hfz74_1
          try clear hfz74_2
          try clear hfz9_0
          try clear hfz9_1
          try clear hfz9_2
          try clear p2
          obtain ⟨kq, x119000_55, x119001_55, x119002_55, HA, HJ55, BK116, BK117, BK118, BK123, HB⟩ := hcut
          cases kq with
          | zero => exact absurd HA.out (by simp [span_Meet.j2])
          | succ kj55 =>
           have H := HA.out
           clear HA
           simp only [span_Meet.j2] at H
           by_cases c75 : t120 = 0
           ·rw [if_pos c75] at H
            exact absurd H (by simp)
           ·rw [if_neg c75] at H
            have c75b0 : (t120 == 0) = false := beq_eq_false_iff_ne.mpr c75
            have c75b1 : (t120 != 0) = true := bne_iff_ne.mpr c75
            obtain ⟨ji76, hji76⟩ : ∃ j_ : Int, (wrap64 (Int.tdiv x118002_2 t120)) = j_ := ⟨_, rfl⟩
            replace H : ((span_mulmod.f (wrap64 (Int.tdiv (wrap64 (x118000_2 - x117000_2)) t120)) t121 (ji76)).bind fun t124 => ((span_floor.f (wrap64 (x117000_2 - ji18)) x117002_2).bind fun t125 => ((span_floor.f (wrap64 (ji19 - x117000_2)) x117002_2).bind fun t126 => ((span_floor.f (wrap64 (t124 - (wrap64 (-t125)))) (ji76)).bind fun t127 => (if (wrap64 (t124 + (wrap64 ((mx 0 (wrap64 (-t127))) * (ji76))))) > t126 then (some (0, 0, 0, false)) else (span_Meet.j3 kj55 ji76 (wrap64 (t124 + (wrap64 ((mx 0 (wrap64 (-t127))) * (ji76))))) t126 x117000_2 x117001_2 x117002_2)))))) = some (r1, r2, r3, r4) := by first | (rw [hji76] at H; exact H) | (simp only [hji76] at H ⊢; exact H)
            have hji76w : (IntKind.i64.wrap (Int.tdiv x118002_2 t120)) = ji76 := (i64_w _).trans hji76
            replace H := Option.bind_eq_some_iff.mp H
            obtain ⟨t124, A770, H⟩ := H
            replace H : ((span_floor.f (wrap64 (x117000_2 - ji18)) x117002_2).bind fun t125 => ((span_floor.f (wrap64 (ji19 - x117000_2)) x117002_2).bind fun t126 => ((span_floor.f (wrap64 (t124 - (wrap64 (-t125)))) (ji76)).bind fun t127 => (if (wrap64 (t124 + (wrap64 ((mx 0 (wrap64 (-t127))) * (ji76))))) > t126 then (some (0, 0, 0, false)) else (span_Meet.j3 kj55 ji76 (wrap64 (t124 + (wrap64 ((mx 0 (wrap64 (-t127))) * (ji76))))) t126 x117000_2 x117001_2 x117002_2))))) = some (r1, r2, r3, r4) := H
            have A77 := Aside0.mk A770
            clear A770
            replace H := Option.bind_eq_some_iff.mp H
            obtain ⟨t125, A780, H⟩ := H
            replace H : ((span_floor.f (wrap64 (ji19 - x117000_2)) x117002_2).bind fun t126 => ((span_floor.f (wrap64 (t124 - (wrap64 (-t125)))) (ji76)).bind fun t127 => (if (wrap64 (t124 + (wrap64 ((mx 0 (wrap64 (-t127))) * (ji76))))) > t126 then (some (0, 0, 0, false)) else (span_Meet.j3 kj55 ji76 (wrap64 (t124 + (wrap64 ((mx 0 (wrap64 (-t127))) * (ji76))))) t126 x117000_2 x117001_2 x117002_2)))) = some (r1, r2, r3, r4) := H
            have A78 := Aside0.mk A780
            clear A780
            replace H := Option.bind_eq_some_iff.mp H
            obtain ⟨t126, A790, H⟩ := H
            replace H : ((span_floor.f (wrap64 (t124 - (wrap64 (-t125)))) (ji76)).bind fun t127 => (if (wrap64 (t124 + (wrap64 ((mx 0 (wrap64 (-t127))) * (ji76))))) > t126 then (some (0, 0, 0, false)) else (span_Meet.j3 kj55 ji76 (wrap64 (t124 + (wrap64 ((mx 0 (wrap64 (-t127))) * (ji76))))) t126 x117000_2 x117001_2 x117002_2))) = some (r1, r2, r3, r4) := H
            have A79 := Aside0.mk A790
            clear A790
            obtain ⟨ji80, hji80⟩ : ∃ j_ : Int, (wrap64 (-t125)) = j_ := ⟨_, rfl⟩
            replace H : ((span_floor.f (wrap64 (t124 - (ji80))) (ji76)).bind fun t127 => (if (wrap64 (t124 + (wrap64 ((mx 0 (wrap64 (-t127))) * (ji76))))) > t126 then (some (0, 0, 0, false)) else (span_Meet.j3 kj55 ji76 (wrap64 (t124 + (wrap64 ((mx 0 (wrap64 (-t127))) * (ji76))))) t126 x117000_2 x117001_2 x117002_2))) = some (r1, r2, r3, r4) := by first | (rw [hji80] at H; exact H) | (simp only [hji80] at H ⊢; exact H)
            (try rw [hji80] at A77)
            (try rw [hji80] at A78)
            (try rw [hji80] at A79)
            have hji80w : (IntKind.i64.wrap (-t125)) = ji80 := (i64_w _).trans hji80
            replace H := Option.bind_eq_some_iff.mp H
            obtain ⟨t127, A810, H⟩ := H
            replace H : (if (wrap64 (t124 + (wrap64 ((mx 0 (wrap64 (-t127))) * (ji76))))) > t126 then (some (0, 0, 0, false)) else (span_Meet.j3 kj55 ji76 (wrap64 (t124 + (wrap64 ((mx 0 (wrap64 (-t127))) * (ji76))))) t126 x117000_2 x117001_2 x117002_2)) = some (r1, r2, r3, r4) := H
            have A81 := Aside0.mk A810
            clear A810
            obtain ⟨ji82, hji82⟩ : ∃ j_ : Int, (mx 0 (wrap64 (-t127))) = j_ := ⟨_, rfl⟩
            replace H : (if (wrap64 (t124 + (wrap64 ((ji82) * (ji76))))) > t126 then (some (0, 0, 0, false)) else (span_Meet.j3 kj55 ji76 (wrap64 (t124 + (wrap64 ((ji82) * (ji76))))) t126 x117000_2 x117001_2 x117002_2)) = some (r1, r2, r3, r4) := by first | (rw [hji82] at H; exact H) | (simp only [hji82] at H ⊢; exact H)
            (try rw [hji82] at A77)
            (try rw [hji82] at A78)
            (try rw [hji82] at A79)
            (try rw [hji82] at A81)
            (try (have hji82l : 0 ≤ ji82 := by (rw [← hji82]; unfold mx; (repeat' split) <;> omega)))
            (try (have hji82m : 0 ≤ ji82 := by omega))
            have hji82_ : (if 0 < (wrap64 (-t127)) then (wrap64 (-t127)) else 0) = ji82 := hji82
            obtain ⟨ji83, hji83⟩ : ∃ j_ : Int, (wrap64 (t124 + (wrap64 ((ji82) * (ji76))))) = j_ := ⟨_, rfl⟩
            replace H : (if (ji83) > t126 then (some (0, 0, 0, false)) else (span_Meet.j3 kj55 ji76 ji83 t126 x117000_2 x117001_2 x117002_2)) = some (r1, r2, r3, r4) := by first | (rw [hji83] at H; exact H) | (simp only [hji83] at H ⊢; exact H)
            (try rw [hji83] at A77)
            (try rw [hji83] at A78)
            (try rw [hji83] at A79)
            (try rw [hji83] at A81)
            have hji83w : (IntKind.i64.wrap (t124 + (wrap64 ((ji82) * (ji76))))) = ji83 := (i64_w _).trans hji83
            have HC84 := Aside0.mk H
            clear H
            have hnb85 := NB117_116.out
            have hnc85 := NB116_117.out
            have hnb86 := NB117_118.out
            have hnc86 := NB118_117.out
            have hnb87 := NB117_123.out
            have hnc87 := NB123_117.out
            have hcz88_0 : wc.cell? ⟨gb117, 0, none⟩ = some (.int .i64 x118000_2) := (blk_cell BK117.out 0).trans rfl
            have hcz88_1 : wc.cell? ⟨gb117, 1, none⟩ = some (.int .i64 x118001_2) := (blk_cell BK117.out 1).trans rfl
            have hcz88_2 : wc.cell? ⟨gb117, 2, none⟩ = some (.int .i64 x118002_2) := (blk_cell BK117.out 2).trans rfl
            have hfz88_0 := blk_frozen BK117.out 0
            have hfz88_1 := blk_frozen BK117.out 1
            have hfz88_2 := blk_frozen BK117.out 2
            have hnb89 := NB116_118.out
            have hnc89 := NB118_116.out
            have hnb90 := NB116_123.out
            have hnc90 := NB123_116.out
            have hcz91_0 : wc.cell? ⟨gb116, 0, none⟩ = some (.int .i64 x117000_2) := (blk_cell BK116.out 0).trans rfl
            have hcz91_1 : wc.cell? ⟨gb116, 1, none⟩ = some (.int .i64 x117001_2) := (blk_cell BK116.out 1).trans rfl
            have hcz91_2 : wc.cell? ⟨gb116, 2, none⟩ = some (.int .i64 x117002_2) := (blk_cell BK116.out 2).trans rfl
            have hfz91_0 := blk_frozen BK116.out 0
            have hfz91_1 := blk_frozen BK116.out 1
            have hfz91_2 := blk_frozen BK116.out 2
            have hnb92 := NB123_118.out
            have hnc92 := NB118_123.out
            have hcz93_0 : wc.cell? ⟨gb123, 0, none⟩ = some (.int .i64 t120) := (blk_cell BK123.out 0).trans rfl
            have hcz93_1 : wc.cell? ⟨gb123, 1, none⟩ = some (.int .i64 t121) := (blk_cell BK123.out 1).trans rfl
            have hcz93_2 : wc.cell? ⟨gb123, 2, none⟩ = some (.int .i64 t122) := (blk_cell BK123.out 2).trans rfl
            have hfz93_0 := blk_frozen BK123.out 0
            have hfz93_1 := blk_frozen BK123.out 1
            have hfz93_2 := blk_frozen BK123.out 2
            go_upto_if 110 with (first | (go_at_call 59; (with_reducible refine (span_mulmod.calls (wrap64 (Int.tdiv (wrap64 (x118000_2 - x117000_2)) t120)) t121 ji76 t124 _ A77.out).mono ?_); rintro e w' ⟨rfl, ⟨nd, rfl⟩⟩; (try first | exact ⟨rfl, _, World.drewN_drewN _ _ _⟩ | exact ⟨rfl, _, Eq.trans (World.drewN_drewN _ _ _) (congrArg (World.drewN _) (Nat.add_assoc _ _ _))⟩)) | (go_at_call 60; (with_reducible refine (span_floor.calls (wrap64 (x117000_2 - ji18)) x117002_2 t125 _ A78.out).mono ?_); rintro e w' ⟨rfl, ⟨nd, rfl⟩⟩; (try first | exact ⟨rfl, _, World.drewN_drewN _ _ _⟩ | exact ⟨rfl, _, Eq.trans (World.drewN_drewN _ _ _) (congrArg (World.drewN _) (Nat.add_assoc _ _ _))⟩)) | (go_at_call 60; (with_reducible refine (span_floor.calls (wrap64 (ji19 - x117000_2)) x117002_2 t126 _ A79.out).mono ?_); rintro e w' ⟨rfl, ⟨nd, rfl⟩⟩; (try first | exact ⟨rfl, _, World.drewN_drewN _ _ _⟩ | exact ⟨rfl, _, Eq.trans (World.drewN_drewN _ _ _) (congrArg (World.drewN _) (Nat.add_assoc _ _ _))⟩)) | (go_at_call 60; (with_reducible refine (span_floor.calls (wrap64 (t124 - (ji80))) ji76 t127 _ A81.out).mono ?_); rintro e w' ⟨rfl, ⟨nd, rfl⟩⟩; (try first | exact ⟨rfl, _, World.drewN_drewN _ _ _⟩ | exact ⟨rfl, _, Eq.trans (World.drewN_drewN _ _ _) (congrArg (World.drewN _) (Nat.add_assoc _ _ _))⟩)))
            repeat (go_quiet (first | (go_at_call 59; (with_reducible refine (span_mulmod.calls (wrap64 (Int.tdiv (wrap64 (x118000_2 - x117000_2)) t120)) t121 ji76 t124 _ A77.out).mono ?_); rintro e w' ⟨rfl, ⟨nd, rfl⟩⟩; (try first | exact ⟨rfl, _, World.drewN_drewN _ _ _⟩ | exact ⟨rfl, _, Eq.trans (World.drewN_drewN _ _ _) (congrArg (World.drewN _) (Nat.add_assoc _ _ _))⟩)) | (go_at_call 60; (with_reducible refine (span_floor.calls (wrap64 (x117000_2 - ji18)) x117002_2 t125 _ A78.out).mono ?_); rintro e w' ⟨rfl, ⟨nd, rfl⟩⟩; (try first | exact ⟨rfl, _, World.drewN_drewN _ _ _⟩ | exact ⟨rfl, _, Eq.trans (World.drewN_drewN _ _ _) (congrArg (World.drewN _) (Nat.add_assoc _ _ _))⟩)) | (go_at_call 60; (with_reducible refine (span_floor.calls (wrap64 (ji19 - x117000_2)) x117002_2 t126 _ A79.out).mono ?_); rintro e w' ⟨rfl, ⟨nd, rfl⟩⟩; (try first | exact ⟨rfl, _, World.drewN_drewN _ _ _⟩ | exact ⟨rfl, _, Eq.trans (World.drewN_drewN _ _ _) (congrArg (World.drewN _) (Nat.add_assoc _ _ _))⟩)) | (go_at_call 60; (with_reducible refine (span_floor.calls (wrap64 (t124 - (ji80))) ji76 t127 _ A81.out).mono ?_); rintro e w' ⟨rfl, ⟨nd, rfl⟩⟩; (try first | exact ⟨rfl, _, World.drewN_drewN _ _ _⟩ | exact ⟨rfl, _, Eq.trans (World.drewN_drewN _ _ _) (congrArg (World.drewN _) (Nat.add_assoc _ _ _))⟩))); go_upto_if 110 with (first | (go_at_call 59; (with_reducible refine (span_mulmod.calls (wrap64 (Int.tdiv (wrap64 (x118000_2 - x117000_2)) t120)) t121 ji76 t124 _ A77.out).mono ?_); rintro e w' ⟨rfl, ⟨nd, rfl⟩⟩; (try first | exact ⟨rfl, _, World.drewN_drewN _ _ _⟩ | exact ⟨rfl, _, Eq.trans (World.drewN_drewN _ _ _) (congrArg (World.drewN _) (Nat.add_assoc _ _ _))⟩)) | (go_at_call 60; (with_reducible refine (span_floor.calls (wrap64 (x117000_2 - ji18)) x117002_2 t125 _ A78.out).mono ?_); rintro e w' ⟨rfl, ⟨nd, rfl⟩⟩; (try first | exact ⟨rfl, _, World.drewN_drewN _ _ _⟩ | exact ⟨rfl, _, Eq.trans (World.drewN_drewN _ _ _) (congrArg (World.drewN _) (Nat.add_assoc _ _ _))⟩)) | (go_at_call 60; (with_reducible refine (span_floor.calls (wrap64 (ji19 - x117000_2)) x117002_2 t126 _ A79.out).mono ?_); rintro e w' ⟨rfl, ⟨nd, rfl⟩⟩; (try first | exact ⟨rfl, _, World.drewN_drewN _ _ _⟩ | exact ⟨rfl, _, Eq.trans (World.drewN_drewN _ _ _) (congrArg (World.drewN _) (Nat.add_assoc _ _ _))⟩)) | (go_at_call 60; (with_reducible refine (span_floor.calls (wrap64 (t124 - (ji80))) ji76 t127 _ A81.out).mono ?_); rintro e w' ⟨rfl, ⟨nd, rfl⟩⟩; (try first | exact ⟨rfl, _, World.drewN_drewN _ _ _⟩ | exact ⟨rfl, _, Eq.trans (World.drewN_drewN _ _ _) (congrArg (World.drewN _) (Nat.add_assoc _ _ _))⟩))))
            (try simp only [Act.put, List.setIfInBounds_toArray, List.set_cons_zero, List.set_cons_succ])
            go_cut [] (fun wc => ∃ (kq : Nat) (x119000_83 : Int) (x119001_83 : Int) (x119002_83 : Int), Aside0 (span_Meet.j3 kq ji76 ji83 t126 x117000_2 x117001_2 x117002_2 = some (r1, r2, r3, r4)) ∧ Aside0 (kq ≤ kj55) ∧ Aside0 (wc.heap[gb116]? = some (.cells #[.int .i64 x117000_2, .int .i64 x117001_2, .int .i64 x117002_2] 28 (0, 0))) ∧ Aside0 (wc.heap[gb117]? = some (.cells #[.int .i64 x118000_2, .int .i64 x118001_2, .int .i64 x118002_2] 28 (0, 0))) ∧ Aside0 (wc.heap[gb118]? = some (.cells #[.int .i64 x119000_83, .int .i64 x119001_83, .int .i64 x119002_83] 28 (0, 0))) ∧ Aside0 (wc.heap[gb123]? = some (.cells #[.int .i64 t120, .int .i64 t121, .int .i64 t122] 51 (0, 0))) ∧ Aside0 (Below w.heap.size w wc))
            case first =>
             have H := HC84.out
             clear HC84
             by_cases c94 : (ji83) > t126
             ·rw [if_pos c94] at H
              have c94b0 : decide (t126 < (ji83)) = true := decide_eq_true c94
              clear c94
              (first | rw [c94b0] | (simp only [i64_w, i32_w]; rw [c94b0]) | skip)
              simp only [Option.some.injEq, Prod.mk.injEq] at H
              obtain ⟨rfl, rfl, rfl, rfl⟩ := H
              have hnb95 := NB118_116.out
              have hnc95 := NB116_118.out
              have hnb96 := NB118_117.out
              have hnc96 := NB117_118.out
              have hnb97 := NB118_123.out
              have hnc97 := NB123_118.out
              have hcz98_0 : wc.cell? ⟨gb118, 0, none⟩ = some (.int .i64 x119000_55) := (blk_cell BK118.out 0).trans rfl
              have hcz98_1 : wc.cell? ⟨gb118, 1, none⟩ = some (.int .i64 x119001_55) := (blk_cell BK118.out 1).trans rfl
              have hcz98_2 : wc.cell? ⟨gb118, 2, none⟩ = some (.int .i64 x119002_55) := (blk_cell BK118.out 2).trans rfl
              have hfz98_0 := blk_frozen BK118.out 0
              have hfz98_1 := blk_frozen BK118.out 1
              have hfz98_2 := blk_frozen BK118.out 2
              go_wp2
              repeat (go_quiet (fail); try go_wp2)
              refine bodyPost_ret (results_ct rfl _ _ gb118 28 #[.int .i64 0, .int .i64 0, .int .i64 0] (0, 0) _ rfl (by (with_reducible repeat (first | refine blk_drewN ?_ _ | refine blk_drew ?_ | refine blk_alloc ?_ _)); refine blk_put (cs := #[.int .i64 0, .int .i64 0, .int .i64 x119002_55]) ?_ 2 _ rfl; (with_reducible repeat (first | refine blk_drewN ?_ _ | refine blk_drew ?_ | refine blk_alloc ?_ _)); refine blk_put (cs := #[.int .i64 0, .int .i64 x119001_55, .int .i64 x119002_55]) ?_ 1 _ rfl; (with_reducible repeat (first | refine blk_drewN ?_ _ | refine blk_drew ?_ | refine blk_alloc ?_ _)); refine blk_put (cs := #[.int .i64 x119000_55, .int .i64 x119001_55, .int .i64 x119002_55]) ?_ 0 _ rfl; (with_reducible repeat (first | refine blk_drewN ?_ _ | refine blk_drew ?_ | refine blk_alloc ?_ _)); exact BK118.out) Try.underlying28 rfl (by kernel_rfl)) rfl ?_
              exact ⟨by first | rfl | (simp [errW_none, errW_some] <;> rfl) | (simp only [← hji18, ← hji19, ← hji76, ← hji80, ← hji82, ← hji83]; first | rfl | (simp [errW_none, errW_some] <;> rfl)) | (simp [*, errW_none, errW_some] <;> rfl), by repeat (first | (with_reducible first | exact HB.out | apply below_alloc | apply pw_below_drewN | apply below_drew1 | refine below_set ?_ GE116.out | refine below_set ?_ GE117.out | refine below_set ?_ GE118.out | refine below_set ?_ GE123.out) | exact HB.out)⟩
             ·rw [if_neg c94] at H
              have c94b0 : decide (t126 < (ji83)) = false := decide_eq_false c94
              clear c94
              (first | rw [c94b0] | (simp only [i64_w, i32_w]; rw [c94b0]) | skip)
              have H' := Aside0.mk H
              clear H
              go_wp2
              repeat (go_quiet (fail); try go_wp2)
              go_meet
              case rel => exact ⟨_, (x119000_55), (x119001_55), (x119002_55), H', ⟨by have := HJ2.out; have := HJ26.out; have := HJ55.out; first | omega | exact Nat.le_refl _⟩, ⟨by (with_reducible repeat (first | refine blk_drewN ?_ _ | refine blk_drew ?_ | refine blk_alloc ?_ _)); exact BK116.out⟩, ⟨by (with_reducible repeat (first | refine blk_drewN ?_ _ | refine blk_drew ?_ | refine blk_alloc ?_ _)); exact BK117.out⟩, ⟨by (with_reducible repeat (first | refine blk_drewN ?_ _ | refine blk_drew ?_ | refine blk_alloc ?_ _)); exact BK118.out⟩, ⟨by (with_reducible repeat (first | refine blk_drewN ?_ _ | refine blk_drew ?_ | refine blk_alloc ?_ _)); exact BK123.out⟩, ⟨by repeat (first | (with_reducible first | exact HB.out | apply below_alloc | apply pw_below_drewN | apply below_drew1 | refine below_set ?_ GE116.out | refine below_set ?_ GE117.out | refine below_set ?_ GE118.out | refine below_set ?_ GE123.out) | exact HB.out)⟩⟩
            case rest =>
             clear HC84
             try clear c1
             try clear c2
             try clear p2
             try clear c3
             try clear c4
             try clear c5
             try clear c6
             try clear p6
             try clear c7
             try clear c8
             try clear c9
             try clear c10
             try clear c12
             try clear c12b0
             try clear c13
             try clear c14
             try clear c16
             try clear c20
             try clear c20b0
             try clear c21
             try clear c22
             try clear c24
             try clear c28
             try clear c29
             try clear c31
             try clear c33
             try clear c33b0
             try clear c33b1
             try clear c35
             try clear c36
             try clear c38
             try clear c41
             try clear c42
             try clear c44
             try clear c45
             try clear c46
             try clear c48
             try clear c48b0
             try clear c48b1
             try clear c49
             try clear c50
             try clear c52
             try clear c55
             try clear c55b0
             try clear c55b1
             try clear c57
             try clear c58
             try clear c60
             try clear c64
             try clear p64
             try clear c65
             try clear c66
             try clear c70
             try clear c70b0
             try clear c70b1
             try clear c71
             try clear c72
             try clear c73
             try clear c75
             try clear c75b0
             try clear c75b1
             try clear c85
             try clear c86
             try clear c87
             try clear c89
             try clear c90
             try clear c92
             try clear c94
             try clear c94b0
             try clear c95
             try clear c96
             try clear c97
             try clear hcz11_0
             try clear hcz11_1
             try clear hcz11_2
             try clear hcz15_0
             try clear hcz15_1
             try clear hcz15_2
             try clear hcz17_0
             try clear hcz17_1
             try clear hcz17_2
             try clear hcz23_0
             try clear hcz23_1
             try clear hcz23_2
             try clear hcz25_0
             try clear hcz25_1
             try clear hcz25_2
             try clear hcz26_0
             try clear hcz26_1
             try clear hcz26_2
             try clear hcz30_0
             try clear hcz30_1
             try clear hcz30_2
             try clear hcz32_0
             try clear hcz32_1
             try clear hcz32_2
             try clear hcz37_0
             try clear hcz37_1
             try clear hcz37_2
             try clear hcz39_0
             try clear hcz39_1
             try clear hcz39_2
             try clear hcz43_0
             try clear hcz43_1
             try clear hcz43_2
             try clear hcz47_0
             try clear hcz47_1
             try clear hcz47_2
             try clear hcz51_0
             try clear hcz51_1
             try clear hcz51_2
             try clear hcz53_0
             try clear hcz53_1
             try clear hcz53_2
             try clear hcz59_0
             try clear hcz59_1
             try clear hcz59_2
             try clear hcz61_0
             try clear hcz61_1
             try clear hcz61_2
             try clear hcz67_0
             try clear hcz67_1
             try clear hcz67_2
             try clear hcz68_0
             try clear hcz68_1
             try clear hcz68_2
             try clear hcz69_0
             try clear hcz69_1
             try clear hcz69_2
             try clear hcz74_0
             try clear hcz74_1
             try clear hcz74_2
             try clear hcz88_0
             try clear hcz88_1
             try clear hcz88_2
             try clear hcz91_0
             try clear hcz91_1
             try clear hcz91_2
             try clear hcz93_0
             try clear hcz93_1
             try clear hcz93_2
             try clear hcz98_0
             try clear hcz98_1
             try clear hcz98_2
             try clear hcz9_0
             try clear hcz9_1
             try clear hcz9_2
             try clear hfz11_0
             try clear hfz11_1
             try clear hfz11_2
             try clear hfz15_0
             try clear hfz15_1
             try clear hfz15_2
             try clear hfz17_0
             try clear hfz17_1
             try clear hfz17_2
             try clear hfz23_0
             try clear hfz23_1
             try clear hfz23_2
             try clear hfz25_0
             try clear hfz25_1
             try clear hfz25_2
             try clear hfz26_0
             try clear hfz26_1
             try clear hfz26_2
             try clear hfz30_0
             try clear hfz30_1
             try clear hfz30_2
             try clear hfz32_0
             try clear hfz32_1
             try clear hfz32_2
             try clear hfz37_0
             try clear hfz37_1
             try clear hfz37_2
             try clear hfz39_0
             try clear hfz39_1
             try clear hfz39_2
             try clear hfz43_0
             try clear hfz43_1
             try clear hfz43_2
             try clear hfz47_0
             try clear hfz47_1
             try clear hfz47_2
             try clear hfz51_0
             try clear hfz51_1
             try clear hfz51_2
             try clear hfz53_0
             try clear hfz53_1
             try clear hfz53_2
             try clear hfz59_0
             try clear hfz59_1
             try clear hfz59_2
             try clear hfz61_0
             try clear hfz61_1
             try clear hfz61_2
             try clear hfz67_0
             try clear hfz67_1
             try clear hfz67_2
             try clear hfz68_0
             try clear hfz68_1
             try clear hfz68_2
             try clear hfz69_0
             try clear hfz69_1
             try clear hfz69_2
             try clear hfz74_0
             try clear hfz74_1
             try clear hfz74_2
             try clear hfz88_0
             try clear hfz88_1
             try clear hfz88_2
             try clear hfz91_0
             try clear hfz91_1
             try clear hfz91_2
             try clear hfz93_0
             try clear hfz93_1
             try clear hfz93_2
             try clear hfz98_0
             try clear hfz98_1
             try clear hfz98_2
             try clear hfz9_0
             try clear hfz9_1
             try clear hfz9_2
             try clear p2
             try clear p6
             try clear p64
             obtain ⟨kq, x119000_83, x119001_83, x119002_83, HA, HJ83, BK116, BK117, BK118, BK123, HB⟩ := hcut
             cases kq with
             | zero => exact absurd HA.out (by simp [span_Meet.j3])
             | succ kj83 =>
              have H := HA.out
              clear HA
              simp only [span_Meet.j3] at H
              by_cases c99 : ji76 = 0
              ·rw [if_pos c99] at H
               exact absurd H (by simp)
              ·rw [if_neg c99] at H
               have c99b0 : (ji76 == 0) = false := beq_eq_false_iff_ne.mpr c99
               have c99b1 : (ji76 != 0) = true := bne_iff_ne.mpr c99
               obtain ⟨ji100, hji100⟩ : ∃ j_ : Int, (wrap64 (t126 - (Int.tmod (wrap64 (t126 - ji83)) ji76))) = j_ := ⟨_, rfl⟩
               replace H : ((span_made.f (wrap64 (x117000_2 + (wrap64 (x117002_2 * ji83)))) (wrap64 (x117000_2 + (wrap64 (x117002_2 * (ji100))))) 0).bind fun bt128 => (if ji83 < (ji100) then (span_Meet.j4 kj83 bt128.1 bt128.2.1 (wrap64 (x117002_2 * ji76))) else (span_Meet.j4 kj83 bt128.1 bt128.2.1 bt128.2.2))) = some (r1, r2, r3, r4) := by first | (rw [hji100] at H; exact H) | (simp only [hji100] at H ⊢; exact H)
               have hji100w : (IntKind.i64.wrap (t126 - (Int.tmod (wrap64 (t126 - ji83)) ji76))) = ji100 := (i64_w _).trans hji100
               replace H := Option.bind_eq_some_iff.mp H
               obtain ⟨⟨t128, t129, t130⟩, A1010, H⟩ := H
               replace H : (if ji83 < (ji100) then (span_Meet.j4 kj83 t128 t129 (wrap64 (x117002_2 * ji76))) else (span_Meet.j4 kj83 t128 t129 t130)) = some (r1, r2, r3, r4) := H
               have A101 := Aside0.mk A1010
               clear A1010
               have HC102 := Aside0.mk H
               clear H
               have hnb103 := NB116_117.out
               have hnc103 := NB117_116.out
               have hnb104 := NB116_118.out
               have hnc104 := NB118_116.out
               have hnb105 := NB116_123.out
               have hnc105 := NB123_116.out
               have hcz106_0 : wc.cell? ⟨gb116, 0, none⟩ = some (.int .i64 x117000_2) := (blk_cell BK116.out 0).trans rfl
               have hcz106_1 : wc.cell? ⟨gb116, 1, none⟩ = some (.int .i64 x117001_2) := (blk_cell BK116.out 1).trans rfl
               have hcz106_2 : wc.cell? ⟨gb116, 2, none⟩ = some (.int .i64 x117002_2) := (blk_cell BK116.out 2).trans rfl
               have hfz106_0 := blk_frozen BK116.out 0
               have hfz106_1 := blk_frozen BK116.out 1
               have hfz106_2 := blk_frozen BK116.out 2
               go_upto_if 136 with (first | (go_at_call 46; (with_reducible refine (span_made.calls (wrap64 (x117000_2 + (wrap64 (x117002_2 * ji83)))) (wrap64 (x117000_2 + (wrap64 (x117002_2 * (ji100))))) 0 t128 t129 t130 _ A101.out).mono ?_); rintro e w107 ⟨rfl, hb⟩; have n0_ := Aside0.mk (bb_ BK116 hb); have n1_ := Aside0.mk (bb_ BK117 hb); have n2_ := Aside0.mk (bb_ BK118 hb); have n3_ := Aside0.mk (bb_ BK123 hb); have n4_ := Aside0.mk (below_step (bl_ HB) hb); clear BK116; clear BK117; clear BK118; clear BK123; clear HB; have BK116 := n0_; have BK117 := n1_; have BK118 := n2_; have BK123 := n3_; have HB := n4_; clear n0_ n1_ n2_ n3_ n4_; (try clear hb); (try clear hb2); (try clear hk); (try clear hi)) | ((with_reducible refine gate_dst (N := 14) rfl ?_); refine box_event ?hg (N := 14) ?hd (cs := #[.int .i64 0, .int .i64 0, .int .i64 0]) (t := 28) ?hr ?_; (case hd => rfl); (case hg => rfl); (case hr => first | (go_simp; done) | (go_simp; rfl)); intro gb131 hg w108 hbox hb; have n0_ := Aside0.mk (bb_ BK116 hb); have n1_ := Aside0.mk (bb_ BK117 hb); have n2_ := Aside0.mk (bb_ BK118 hb); have n3_ := Aside0.mk (bb_ BK123 hb); have n4_ := Aside0.mk (below_step (bl_ HB) hb); have n5_ := Aside0.mk (hbox); have n6_ := Aside0.mk ((by rw [hg]; exact (below_size (bl_ HB)) : w.heap.size ≤ gb131)); have n7_ := Aside0.mk ((by rw [hg]; exact (below_size (bl_ HB)) : w.heap.size ≤ gb131)); have n8_ := Aside0.mk (nl_ hg BK116); have n9_ := Aside0.mk (ng_ hg BK116); have n10_ := Aside0.mk (nl_ hg BK117); have n11_ := Aside0.mk (ng_ hg BK117); have n12_ := Aside0.mk (nl_ hg BK118); have n13_ := Aside0.mk (ng_ hg BK118); have n14_ := Aside0.mk (nl_ hg BK123); have n15_ := Aside0.mk (ng_ hg BK123); clear BK116; clear BK117; clear BK118; clear BK123; clear HB; have BK116 := n0_; have BK117 := n1_; have BK118 := n2_; have BK123 := n3_; have HB := n4_; have BK131 := n5_; have GW131 := n6_; have GE131 := n7_; have NB116_131 := n8_; have NB131_116 := n9_; have NB117_131 := n10_; have NB131_117 := n11_; have NB118_131 := n12_; have NB131_118 := n13_; have NB123_131 := n14_; have NB131_123 := n15_; clear n0_ n1_ n2_ n3_ n4_ n5_ n6_ n7_ n8_ n9_ n10_ n11_ n12_ n13_ n14_ n15_; clear hb hbox hg; have hnb109 := NB131_116.out; have hnc109 := NB116_131.out; have hnb110 := NB131_117.out; have hnc110 := NB117_131.out; have hnb111 := NB131_118.out; have hnc111 := NB118_131.out; have hnb112 := NB131_123.out; have hnc112 := NB123_131.out; have hcz113_0 : w108.cell? ⟨gb131, 0, none⟩ = some (.int .i64 0) := (blk_cell BK131.out 0).trans rfl; have hcz113_1 : w108.cell? ⟨gb131, 1, none⟩ = some (.int .i64 0) := (blk_cell BK131.out 1).trans rfl; have hcz113_2 : w108.cell? ⟨gb131, 2, none⟩ = some (.int .i64 0) := (blk_cell BK131.out 2).trans rfl; have hfz113_0 := blk_frozen BK131.out 0; have hfz113_1 := blk_frozen BK131.out 1; have hfz113_2 := blk_frozen BK131.out 2))
               repeat (go_quiet (first | (go_at_call 46; (with_reducible refine (span_made.calls (wrap64 (x117000_2 + (wrap64 (x117002_2 * ji83)))) (wrap64 (x117000_2 + (wrap64 (x117002_2 * (ji100))))) 0 t128 t129 t130 _ A101.out).mono ?_); rintro e w107 ⟨rfl, hb⟩; have n0_ := Aside0.mk (bb_ BK116 hb); have n1_ := Aside0.mk (bb_ BK117 hb); have n2_ := Aside0.mk (bb_ BK118 hb); have n3_ := Aside0.mk (bb_ BK123 hb); have n4_ := Aside0.mk (below_step (bl_ HB) hb); clear BK116; clear BK117; clear BK118; clear BK123; clear HB; have BK116 := n0_; have BK117 := n1_; have BK118 := n2_; have BK123 := n3_; have HB := n4_; clear n0_ n1_ n2_ n3_ n4_; (try clear hb); (try clear hb2); (try clear hk); (try clear hi)) | ((with_reducible refine gate_dst (N := 14) rfl ?_); refine box_event ?hg (N := 14) ?hd (cs := #[.int .i64 0, .int .i64 0, .int .i64 0]) (t := 28) ?hr ?_; (case hd => rfl); (case hg => rfl); (case hr => first | (go_simp; done) | (go_simp; rfl)); intro gb131 hg w108 hbox hb; have n0_ := Aside0.mk (bb_ BK116 hb); have n1_ := Aside0.mk (bb_ BK117 hb); have n2_ := Aside0.mk (bb_ BK118 hb); have n3_ := Aside0.mk (bb_ BK123 hb); have n4_ := Aside0.mk (below_step (bl_ HB) hb); have n5_ := Aside0.mk (hbox); have n6_ := Aside0.mk ((by rw [hg]; exact (below_size (bl_ HB)) : w.heap.size ≤ gb131)); have n7_ := Aside0.mk ((by rw [hg]; exact (below_size (bl_ HB)) : w.heap.size ≤ gb131)); have n8_ := Aside0.mk (nl_ hg BK116); have n9_ := Aside0.mk (ng_ hg BK116); have n10_ := Aside0.mk (nl_ hg BK117); have n11_ := Aside0.mk (ng_ hg BK117); have n12_ := Aside0.mk (nl_ hg BK118); have n13_ := Aside0.mk (ng_ hg BK118); have n14_ := Aside0.mk (nl_ hg BK123); have n15_ := Aside0.mk (ng_ hg BK123); clear BK116; clear BK117; clear BK118; clear BK123; clear HB; have BK116 := n0_; have BK117 := n1_; have BK118 := n2_; have BK123 := n3_; have HB := n4_; have BK131 := n5_; have GW131 := n6_; have GE131 := n7_; have NB116_131 := n8_; have NB131_116 := n9_; have NB117_131 := n10_; have NB131_117 := n11_; have NB118_131 := n12_; have NB131_118 := n13_; have NB123_131 := n14_; have NB131_123 := n15_; clear n0_ n1_ n2_ n3_ n4_ n5_ n6_ n7_ n8_ n9_ n10_ n11_ n12_ n13_ n14_ n15_; clear hb hbox hg; have hnb109 := NB131_116.out; have hnc109 := NB116_131.out; have hnb110 := NB131_117.out; have hnc110 := NB117_131.out; have hnb111 := NB131_118.out; have hnc111 := NB118_131.out; have hnb112 := NB131_123.out; have hnc112 := NB123_131.out; have hcz113_0 : w108.cell? ⟨gb131, 0, none⟩ = some (.int .i64 0) := (blk_cell BK131.out 0).trans rfl; have hcz113_1 : w108.cell? ⟨gb131, 1, none⟩ = some (.int .i64 0) := (blk_cell BK131.out 1).trans rfl; have hcz113_2 : w108.cell? ⟨gb131, 2, none⟩ = some (.int .i64 0) := (blk_cell BK131.out 2).trans rfl; have hfz113_0 := blk_frozen BK131.out 0; have hfz113_1 := blk_frozen BK131.out 1; have hfz113_2 := blk_frozen BK131.out 2)); go_upto_if 136 with (first | (go_at_call 46; (with_reducible refine (span_made.calls (wrap64 (x117000_2 + (wrap64 (x117002_2 * ji83)))) (wrap64 (x117000_2 + (wrap64 (x117002_2 * (ji100))))) 0 t128 t129 t130 _ A101.out).mono ?_); rintro e w107 ⟨rfl, hb⟩; have n0_ := Aside0.mk (bb_ BK116 hb); have n1_ := Aside0.mk (bb_ BK117 hb); have n2_ := Aside0.mk (bb_ BK118 hb); have n3_ := Aside0.mk (bb_ BK123 hb); have n4_ := Aside0.mk (below_step (bl_ HB) hb); clear BK116; clear BK117; clear BK118; clear BK123; clear HB; have BK116 := n0_; have BK117 := n1_; have BK118 := n2_; have BK123 := n3_; have HB := n4_; clear n0_ n1_ n2_ n3_ n4_; (try clear hb); (try clear hb2); (try clear hk); (try clear hi)) | ((with_reducible refine gate_dst (N := 14) rfl ?_); refine box_event ?hg (N := 14) ?hd (cs := #[.int .i64 0, .int .i64 0, .int .i64 0]) (t := 28) ?hr ?_; (case hd => rfl); (case hg => rfl); (case hr => first | (go_simp; done) | (go_simp; rfl)); intro gb131 hg w108 hbox hb; have n0_ := Aside0.mk (bb_ BK116 hb); have n1_ := Aside0.mk (bb_ BK117 hb); have n2_ := Aside0.mk (bb_ BK118 hb); have n3_ := Aside0.mk (bb_ BK123 hb); have n4_ := Aside0.mk (below_step (bl_ HB) hb); have n5_ := Aside0.mk (hbox); have n6_ := Aside0.mk ((by rw [hg]; exact (below_size (bl_ HB)) : w.heap.size ≤ gb131)); have n7_ := Aside0.mk ((by rw [hg]; exact (below_size (bl_ HB)) : w.heap.size ≤ gb131)); have n8_ := Aside0.mk (nl_ hg BK116); have n9_ := Aside0.mk (ng_ hg BK116); have n10_ := Aside0.mk (nl_ hg BK117); have n11_ := Aside0.mk (ng_ hg BK117); have n12_ := Aside0.mk (nl_ hg BK118); have n13_ := Aside0.mk (ng_ hg BK118); have n14_ := Aside0.mk (nl_ hg BK123); have n15_ := Aside0.mk (ng_ hg BK123); clear BK116; clear BK117; clear BK118; clear BK123; clear HB; have BK116 := n0_; have BK117 := n1_; have BK118 := n2_; have BK123 := n3_; have HB := n4_; have BK131 := n5_; have GW131 := n6_; have GE131 := n7_; have NB116_131 := n8_; have NB131_116 := n9_; have NB117_131 := n10_; have NB131_117 := n11_; have NB118_131 := n12_; have NB131_118 := n13_; have NB123_131 := n14_; have NB131_123 := n15_; clear n0_ n1_ n2_ n3_ n4_ n5_ n6_ n7_ n8_ n9_ n10_ n11_ n12_ n13_ n14_ n15_; clear hb hbox hg; have hnb109 := NB131_116.out; have hnc109 := NB116_131.out; have hnb110 := NB131_117.out; have hnc110 := NB117_131.out; have hnb111 := NB131_118.out; have hnc111 := NB118_131.out; have hnb112 := NB131_123.out; have hnc112 := NB123_131.out; have hcz113_0 : w108.cell? ⟨gb131, 0, none⟩ = some (.int .i64 0) := (blk_cell BK131.out 0).trans rfl; have hcz113_1 : w108.cell? ⟨gb131, 1, none⟩ = some (.int .i64 0) := (blk_cell BK131.out 1).trans rfl; have hcz113_2 : w108.cell? ⟨gb131, 2, none⟩ = some (.int .i64 0) := (blk_cell BK131.out 2).trans rfl; have hfz113_0 := blk_frozen BK131.out 0; have hfz113_1 := blk_frozen BK131.out 1; have hfz113_2 := blk_frozen BK131.out 2)))
               (try simp only [Act.put, List.setIfInBounds_toArray, List.set_cons_zero, List.set_cons_succ])
               go_cut [] (fun wc => ∃ (kq : Nat) (x132002_101 : Int), Aside0 (span_Meet.j4 kq t128 t129 x132002_101 = some (r1, r2, r3, r4)) ∧ Aside0 (kq ≤ kj83) ∧ Aside0 (wc.heap[gb116]? = some (.cells #[.int .i64 x117000_2, .int .i64 x117001_2, .int .i64 x117002_2] 28 (0, 0))) ∧ Aside0 (wc.heap[gb117]? = some (.cells #[.int .i64 x118000_2, .int .i64 x118001_2, .int .i64 x118002_2] 28 (0, 0))) ∧ Aside0 (wc.heap[gb118]? = some (.cells #[.int .i64 x119000_83, .int .i64 x119001_83, .int .i64 x119002_83] 28 (0, 0))) ∧ Aside0 (wc.heap[gb123]? = some (.cells #[.int .i64 t120, .int .i64 t121, .int .i64 t122] 51 (0, 0))) ∧ Aside0 (wc.heap[gb131]? = some (.cells #[.int .i64 t128, .int .i64 t129, .int .i64 x132002_101] 28 (0, 0))) ∧ Aside0 (Below w.heap.size w wc))
               case first =>
                have H := HC102.out
                clear HC102
                by_cases c114 : ji83 < (ji100)
                ·rw [if_pos c114] at H
                 have c114b0 : decide (ji83 < (ji100)) = true := decide_eq_true c114
                 clear c114
                 (first | rw [c114b0] | (simp only [i64_w, i32_w]; rw [c114b0]) | skip)
                 have H' := Aside0.mk H
                 clear H
                 have hnb115 := NB116_117.out
                 have hnc115 := NB117_116.out
                 have hnb116 := NB116_118.out
                 have hnc116 := NB118_116.out
                 have hnb117 := NB116_123.out
                 have hnc117 := NB123_116.out
                 have hnb118 := NB116_131.out
                 have hnc118 := NB131_116.out
                 have hcz119_0 : w108.cell? ⟨gb116, 0, none⟩ = some (.int .i64 x117000_2) := (blk_cell BK116.out 0).trans rfl
                 have hcz119_1 : w108.cell? ⟨gb116, 1, none⟩ = some (.int .i64 x117001_2) := (blk_cell BK116.out 1).trans rfl
                 have hcz119_2 : w108.cell? ⟨gb116, 2, none⟩ = some (.int .i64 x117002_2) := (blk_cell BK116.out 2).trans rfl
                 have hfz119_0 := blk_frozen BK116.out 0
                 have hfz119_1 := blk_frozen BK116.out 1
                 have hfz119_2 := blk_frozen BK116.out 2
                 have hnb120 := NB131_117.out
                 have hnc120 := NB117_131.out
                 have hnb121 := NB131_118.out
                 have hnc121 := NB118_131.out
                 have hnb122 := NB131_123.out
                 have hnc122 := NB123_131.out
                 have hcz123_0 : w108.cell? ⟨gb131, 0, none⟩ = some (.int .i64 0) := (blk_cell BK131.out 0).trans rfl
                 have hcz123_1 : w108.cell? ⟨gb131, 1, none⟩ = some (.int .i64 0) := (blk_cell BK131.out 1).trans rfl
                 have hcz123_2 : w108.cell? ⟨gb131, 2, none⟩ = some (.int .i64 0) := (blk_cell BK131.out 2).trans rfl
                 have hfz123_0 := blk_frozen BK131.out 0
                 have hfz123_1 := blk_frozen BK131.out 1
                 have hfz123_2 := blk_frozen BK131.out 2
                 go_wp2
                 repeat (go_quiet (fail); try go_wp2)
                 go_meet
                 case rel => exact ⟨_, (wrap64 (x117002_2 * ji76)), H', ⟨by have := HJ2.out; have := HJ26.out; have := HJ55.out; have := HJ83.out; first | omega | exact Nat.le_refl _⟩, ⟨by (with_reducible repeat (first | refine blk_drewN ?_ _ | refine blk_drew ?_ | refine blk_alloc ?_ _)); refine blk_far ?_ NB116_131.out _; (with_reducible repeat (first | refine blk_drewN ?_ _ | refine blk_drew ?_ | refine blk_alloc ?_ _)); refine blk_far ?_ NB116_131.out _; (with_reducible repeat (first | refine blk_drewN ?_ _ | refine blk_drew ?_ | refine blk_alloc ?_ _)); refine blk_far ?_ NB116_131.out _; (with_reducible repeat (first | refine blk_drewN ?_ _ | refine blk_drew ?_ | refine blk_alloc ?_ _)); refine blk_far ?_ NB116_131.out _; (with_reducible repeat (first | refine blk_drewN ?_ _ | refine blk_drew ?_ | refine blk_alloc ?_ _)); exact BK116.out⟩, ⟨by (with_reducible repeat (first | refine blk_drewN ?_ _ | refine blk_drew ?_ | refine blk_alloc ?_ _)); refine blk_far ?_ NB117_131.out _; (with_reducible repeat (first | refine blk_drewN ?_ _ | refine blk_drew ?_ | refine blk_alloc ?_ _)); refine blk_far ?_ NB117_131.out _; (with_reducible repeat (first | refine blk_drewN ?_ _ | refine blk_drew ?_ | refine blk_alloc ?_ _)); refine blk_far ?_ NB117_131.out _; (with_reducible repeat (first | refine blk_drewN ?_ _ | refine blk_drew ?_ | refine blk_alloc ?_ _)); refine blk_far ?_ NB117_131.out _; (with_reducible repeat (first | refine blk_drewN ?_ _ | refine blk_drew ?_ | refine blk_alloc ?_ _)); exact BK117.out⟩, ⟨by (with_reducible repeat (first | refine blk_drewN ?_ _ | refine blk_drew ?_ | refine blk_alloc ?_ _)); refine blk_far ?_ NB118_131.out _; (with_reducible repeat (first | refine blk_drewN ?_ _ | refine blk_drew ?_ | refine blk_alloc ?_ _)); refine blk_far ?_ NB118_131.out _; (with_reducible repeat (first | refine blk_drewN ?_ _ | refine blk_drew ?_ | refine blk_alloc ?_ _)); refine blk_far ?_ NB118_131.out _; (with_reducible repeat (first | refine blk_drewN ?_ _ | refine blk_drew ?_ | refine blk_alloc ?_ _)); refine blk_far ?_ NB118_131.out _; (with_reducible repeat (first | refine blk_drewN ?_ _ | refine blk_drew ?_ | refine blk_alloc ?_ _)); exact BK118.out⟩, ⟨by (with_reducible repeat (first | refine blk_drewN ?_ _ | refine blk_drew ?_ | refine blk_alloc ?_ _)); refine blk_far ?_ NB123_131.out _; (with_reducible repeat (first | refine blk_drewN ?_ _ | refine blk_drew ?_ | refine blk_alloc ?_ _)); refine blk_far ?_ NB123_131.out _; (with_reducible repeat (first | refine blk_drewN ?_ _ | refine blk_drew ?_ | refine blk_alloc ?_ _)); refine blk_far ?_ NB123_131.out _; (with_reducible repeat (first | refine blk_drewN ?_ _ | refine blk_drew ?_ | refine blk_alloc ?_ _)); refine blk_far ?_ NB123_131.out _; (with_reducible repeat (first | refine blk_drewN ?_ _ | refine blk_drew ?_ | refine blk_alloc ?_ _)); exact BK123.out⟩, ⟨by (with_reducible repeat (first | refine blk_drewN ?_ _ | refine blk_drew ?_ | refine blk_alloc ?_ _)); refine blk_put (cs := #[.int .i64 t128, .int .i64 t129, .int .i64 t130]) ?_ 2 _ rfl; (with_reducible repeat (first | refine blk_drewN ?_ _ | refine blk_drew ?_ | refine blk_alloc ?_ _)); refine blk_put (cs := #[.int .i64 t128, .int .i64 t129, .int .i64 0]) ?_ 2 _ rfl; (with_reducible repeat (first | refine blk_drewN ?_ _ | refine blk_drew ?_ | refine blk_alloc ?_ _)); refine blk_put (cs := #[.int .i64 t128, .int .i64 0, .int .i64 0]) ?_ 1 _ rfl; (with_reducible repeat (first | refine blk_drewN ?_ _ | refine blk_drew ?_ | refine blk_alloc ?_ _)); refine blk_put (cs := #[.int .i64 0, .int .i64 0, .int .i64 0]) ?_ 0 _ rfl; (with_reducible repeat (first | refine blk_drewN ?_ _ | refine blk_drew ?_ | refine blk_alloc ?_ _)); exact BK131.out⟩, ⟨by repeat (first | (with_reducible first | exact HB.out | apply below_alloc | apply pw_below_drewN | apply below_drew1 | refine below_set ?_ GE116.out | refine below_set ?_ GE117.out | refine below_set ?_ GE118.out | refine below_set ?_ GE123.out | refine below_set ?_ GE131.out) | exact HB.out)⟩⟩
                ·rw [if_neg c114] at H
                 have c114b0 : decide (ji83 < (ji100)) = false := decide_eq_false c114
                 clear c114
                 (first | rw [c114b0] | (simp only [i64_w, i32_w]; rw [c114b0]) | skip)
                 have H' := Aside0.mk H
                 clear H
                 go_wp2
                 repeat (go_quiet (fail); try go_wp2)
                 go_meet
                 case rel => exact ⟨_, (t130), H', ⟨by have := HJ2.out; have := HJ26.out; have := HJ55.out; have := HJ83.out; first | omega | exact Nat.le_refl _⟩, ⟨by (with_reducible repeat (first | refine blk_drewN ?_ _ | refine blk_drew ?_ | refine blk_alloc ?_ _)); refine blk_far ?_ NB116_131.out _; (with_reducible repeat (first | refine blk_drewN ?_ _ | refine blk_drew ?_ | refine blk_alloc ?_ _)); refine blk_far ?_ NB116_131.out _; (with_reducible repeat (first | refine blk_drewN ?_ _ | refine blk_drew ?_ | refine blk_alloc ?_ _)); refine blk_far ?_ NB116_131.out _; (with_reducible repeat (first | refine blk_drewN ?_ _ | refine blk_drew ?_ | refine blk_alloc ?_ _)); exact BK116.out⟩, ⟨by (with_reducible repeat (first | refine blk_drewN ?_ _ | refine blk_drew ?_ | refine blk_alloc ?_ _)); refine blk_far ?_ NB117_131.out _; (with_reducible repeat (first | refine blk_drewN ?_ _ | refine blk_drew ?_ | refine blk_alloc ?_ _)); refine blk_far ?_ NB117_131.out _; (with_reducible repeat (first | refine blk_drewN ?_ _ | refine blk_drew ?_ | refine blk_alloc ?_ _)); refine blk_far ?_ NB117_131.out _; (with_reducible repeat (first | refine blk_drewN ?_ _ | refine blk_drew ?_ | refine blk_alloc ?_ _)); exact BK117.out⟩, ⟨by (with_reducible repeat (first | refine blk_drewN ?_ _ | refine blk_drew ?_ | refine blk_alloc ?_ _)); refine blk_far ?_ NB118_131.out _; (with_reducible repeat (first | refine blk_drewN ?_ _ | refine blk_drew ?_ | refine blk_alloc ?_ _)); refine blk_far ?_ NB118_131.out _; (with_reducible repeat (first | refine blk_drewN ?_ _ | refine blk_drew ?_ | refine blk_alloc ?_ _)); refine blk_far ?_ NB118_131.out _; (with_reducible repeat (first | refine blk_drewN ?_ _ | refine blk_drew ?_ | refine blk_alloc ?_ _)); exact BK118.out⟩, ⟨by (with_reducible repeat (first | refine blk_drewN ?_ _ | refine blk_drew ?_ | refine blk_alloc ?_ _)); refine blk_far ?_ NB123_131.out _; (with_reducible repeat (first | refine blk_drewN ?_ _ | refine blk_drew ?_ | refine blk_alloc ?_ _)); refine blk_far ?_ NB123_131.out _; (with_reducible repeat (first | refine blk_drewN ?_ _ | refine blk_drew ?_ | refine blk_alloc ?_ _)); refine blk_far ?_ NB123_131.out _; (with_reducible repeat (first | refine blk_drewN ?_ _ | refine blk_drew ?_ | refine blk_alloc ?_ _)); exact BK123.out⟩, ⟨by (with_reducible repeat (first | refine blk_drewN ?_ _ | refine blk_drew ?_ | refine blk_alloc ?_ _)); refine blk_put (cs := #[.int .i64 t128, .int .i64 t129, .int .i64 0]) ?_ 2 _ rfl; (with_reducible repeat (first | refine blk_drewN ?_ _ | refine blk_drew ?_ | refine blk_alloc ?_ _)); refine blk_put (cs := #[.int .i64 t128, .int .i64 0, .int .i64 0]) ?_ 1 _ rfl; (with_reducible repeat (first | refine blk_drewN ?_ _ | refine blk_drew ?_ | refine blk_alloc ?_ _)); refine blk_put (cs := #[.int .i64 0, .int .i64 0, .int .i64 0]) ?_ 0 _ rfl; (with_reducible repeat (first | refine blk_drewN ?_ _ | refine blk_drew ?_ | refine blk_alloc ?_ _)); exact BK131.out⟩, ⟨by repeat (first | (with_reducible first | exact HB.out | apply below_alloc | apply pw_below_drewN | apply below_drew1 | refine below_set ?_ GE116.out | refine below_set ?_ GE117.out | refine below_set ?_ GE118.out | refine below_set ?_ GE123.out | refine below_set ?_ GE131.out) | exact HB.out)⟩⟩
               case rest =>
                clear HC102
                try clear c1
                try clear c2
                try clear p2
                try clear c3
                try clear c4
                try clear c5
                try clear c6
                try clear p6
                try clear c7
                try clear c8
                try clear c9
                try clear c10
                try clear c11
                try clear c12
                try clear c12b0
                try clear c13
                try clear c14
                try clear c16
                try clear c20
                try clear c20b0
                try clear c21
                try clear c22
                try clear c24
                try clear c28
                try clear c29
                try clear c31
                try clear c33
                try clear c33b0
                try clear c33b1
                try clear c35
                try clear c36
                try clear c38
                try clear c41
                try clear c42
                try clear c44
                try clear c45
                try clear c46
                try clear c48
                try clear c48b0
                try clear c48b1
                try clear c49
                try clear c50
                try clear c52
                try clear c55
                try clear c55b0
                try clear c55b1
                try clear c57
                try clear c58
                try clear c60
                try clear c64
                try clear p64
                try clear c65
                try clear c66
                try clear c70
                try clear c70b0
                try clear c70b1
                try clear c71
                try clear c72
                try clear c73
                try clear c75
                try clear c75b0
                try clear c75b1
                try clear c85
                try clear c86
                try clear c87
                try clear c89
                try clear c90
                try clear c92
                try clear c94
                try clear c94b0
                try clear c95
                try clear c96
                try clear c97
                try clear c99
                try clear c99b0
                try clear c99b1
                try clear c103
                try clear c104
                try clear c105
                try clear c109
                try clear c110
                try clear c111
                try clear c112
                try clear c114
                try clear c114b0
                try clear c115
                try clear c116
                try clear c117
                try clear c118
                try clear c120
                try clear c121
                try clear c122
                try clear hcz106_0
                try clear hcz106_1
                try clear hcz106_2
                try clear hcz113_0
                try clear hcz113_1
                try clear hcz113_2
                try clear hcz119_0
                try clear hcz119_1
                try clear hcz119_2
                try clear hcz11_0
                try clear hcz11_1
                try clear hcz11_2
                try clear hcz123_0
                try clear hcz123_1
                try clear hcz123_2
                try clear hcz15_0
                try clear hcz15_1
                try clear hcz15_2
                try clear hcz17_0
                try clear hcz17_1
                try clear hcz17_2
                try clear hcz23_0
                try clear hcz23_1
                try clear hcz23_2
                try clear hcz25_0
                try clear hcz25_1
                try clear hcz25_2
                try clear hcz26_0
                try clear hcz26_1
                try clear hcz26_2
                try clear hcz30_0
                try clear hcz30_1
                try clear hcz30_2
                try clear hcz32_0
                try clear hcz32_1
                try clear hcz32_2
                try clear hcz37_0
                try clear hcz37_1
                try clear hcz37_2
                try clear hcz39_0
                try clear hcz39_1
                try clear hcz39_2
                try clear hcz43_0
                try clear hcz43_1
                try clear hcz43_2
                try clear hcz47_0
                try clear hcz47_1
                try clear hcz47_2
                try clear hcz51_0
                try clear hcz51_1
                try clear hcz51_2
                try clear hcz53_0
                try clear hcz53_1
                try clear hcz53_2
                try clear hcz59_0
                try clear hcz59_1
                try clear hcz59_2
                try clear hcz61_0
                try clear hcz61_1
                try clear hcz61_2
                try clear hcz67_0
                try clear hcz67_1
                try clear hcz67_2
                try clear hcz68_0
                try clear hcz68_1
                try clear hcz68_2
                try clear hcz69_0
                try clear hcz69_1
                try clear hcz69_2
                try clear hcz74_0
                try clear hcz74_1
                try clear hcz74_2
                try clear hcz88_0
                try clear hcz88_1
                try clear hcz88_2
                try clear hcz91_0
                try clear hcz91_1
                try clear hcz91_2
                try clear hcz93_0
                try clear hcz93_1
                try clear hcz93_2
                try clear hcz98_0
                try clear hcz98_1
                try clear hcz98_2
                try clear hcz9_0
                try clear hcz9_1
                try clear hcz9_2
                try clear hfz106_0
                try clear hfz106_1
                try clear hfz106_2
                try clear hfz113_0
                try clear hfz113_1
                try clear hfz113_2
                try clear hfz119_0
                try clear hfz119_1
                try clear hfz119_2
                try clear hfz11_0
                try clear hfz11_1
                try clear hfz11_2
                try clear hfz123_0
                try clear hfz123_1
                try clear hfz123_2
                try clear hfz15_0
                try clear hfz15_1
                try clear hfz15_2
                try clear hfz17_0
                try clear hfz17_1
                try clear hfz17_2
                try clear hfz23_0
                try clear hfz23_1
                try clear hfz23_2
                try clear hfz25_0
                try clear hfz25_1
                try clear hfz25_2
                try clear hfz26_0
                try clear hfz26_1
                try clear hfz26_2
                try clear hfz30_0
                try clear hfz30_1
                try clear hfz30_2
                try clear hfz32_0
                try clear hfz32_1
                try clear hfz32_2
                try clear hfz37_0
                try clear hfz37_1
                try clear hfz37_2
                try clear hfz39_0
                try clear hfz39_1
                try clear hfz39_2
                try clear hfz43_0
                try clear hfz43_1
                try clear hfz43_2
                try clear hfz47_0
                try clear hfz47_1
                try clear hfz47_2
                try clear hfz51_0
                try clear hfz51_1
                try clear hfz51_2
                try clear hfz53_0
                try clear hfz53_1
                try clear hfz53_2
                try clear hfz59_0
                try clear hfz59_1
                try clear hfz59_2
                try clear hfz61_0
                try clear hfz61_1
                try clear hfz61_2
                try clear hfz67_0
                try clear hfz67_1
                try clear hfz67_2
                try clear hfz68_0
                try clear hfz68_1
                try clear hfz68_2
                try clear hfz69_0
                try clear hfz69_1
                try clear hfz69_2
                try clear hfz74_0
                try clear hfz74_1
                try clear hfz74_2
                try clear hfz88_0
                try clear hfz88_1
                try clear hfz88_2
                try clear hfz91_0
                try clear hfz91_1
                try clear hfz91_2
                try clear hfz93_0
                try clear hfz93_1
                try clear hfz93_2
                try clear hfz98_0
                try clear hfz98_1
                try clear hfz98_2
                try clear hfz9_0
                try clear hfz9_1
                try clear hfz9_2
                try clear p2
                try clear p6
                try clear p64
                obtain ⟨kq, x132002_101, HA, HJ101, BK116, BK117, BK118, BK123, BK131, HB⟩ := hcut
                cases kq with
                | zero => exact absurd HA.out (by simp [span_Meet.j4])
                | succ kj101 =>
                 have H := HA.out
                 clear HA
                 simp only [span_Meet.j4] at H
                 simp only [Option.some.injEq, Prod.mk.injEq] at H
                 obtain ⟨rfl, rfl, rfl, rfl⟩ := H
                 have hnb124 := NB131_116.out
                 have hnc124 := NB116_131.out
                 have hnb125 := NB131_117.out
                 have hnc125 := NB117_131.out
                 have hnb126 := NB131_118.out
                 have hnc126 := NB118_131.out
                 have hnb127 := NB131_123.out
                 have hnc127 := NB123_131.out
                 have hcz128_0 : wc.cell? ⟨gb131, 0, none⟩ = some (.int .i64 t128) := (blk_cell BK131.out 0).trans rfl
                 have hcz128_1 : wc.cell? ⟨gb131, 1, none⟩ = some (.int .i64 t129) := (blk_cell BK131.out 1).trans rfl
                 have hcz128_2 : wc.cell? ⟨gb131, 2, none⟩ = some (.int .i64 x132002_101) := (blk_cell BK131.out 2).trans rfl
                 have hfz128_0 := blk_frozen BK131.out 0
                 have hfz128_1 := blk_frozen BK131.out 1
                 have hfz128_2 := blk_frozen BK131.out 2
                 have hnb129 := NB118_116.out
                 have hnc129 := NB116_118.out
                 have hnb130 := NB118_117.out
                 have hnc130 := NB117_118.out
                 have hnb131 := NB118_123.out
                 have hnc131 := NB123_118.out
                 have hcz132_0 : wc.cell? ⟨gb118, 0, none⟩ = some (.int .i64 x119000_83) := (blk_cell BK118.out 0).trans rfl
                 have hcz132_1 : wc.cell? ⟨gb118, 1, none⟩ = some (.int .i64 x119001_83) := (blk_cell BK118.out 1).trans rfl
                 have hcz132_2 : wc.cell? ⟨gb118, 2, none⟩ = some (.int .i64 x119002_83) := (blk_cell BK118.out 2).trans rfl
                 have hfz132_0 := blk_frozen BK118.out 0
                 have hfz132_1 := blk_frozen BK118.out 1
                 have hfz132_2 := blk_frozen BK118.out 2
                 go_wp2
                 repeat (go_quiet (fail); try go_wp2)
                 refine bodyPost_ret (results_ct rfl _ _ gb118 28 #[.int .i64 t128, .int .i64 t129, .int .i64 x132002_101] (0, 0) _ rfl (by (with_reducible repeat (first | refine blk_drewN ?_ _ | refine blk_drew ?_ | refine blk_alloc ?_ _)); refine blk_put (cs := #[.int .i64 t128, .int .i64 t129, .int .i64 x119002_83]) ?_ 2 _ rfl; (with_reducible repeat (first | refine blk_drewN ?_ _ | refine blk_drew ?_ | refine blk_alloc ?_ _)); refine blk_put (cs := #[.int .i64 t128, .int .i64 x119001_83, .int .i64 x119002_83]) ?_ 1 _ rfl; (with_reducible repeat (first | refine blk_drewN ?_ _ | refine blk_drew ?_ | refine blk_alloc ?_ _)); refine blk_put (cs := #[.int .i64 x119000_83, .int .i64 x119001_83, .int .i64 x119002_83]) ?_ 0 _ rfl; (with_reducible repeat (first | refine blk_drewN ?_ _ | refine blk_drew ?_ | refine blk_alloc ?_ _)); exact BK118.out) Try.underlying28 rfl (by kernel_rfl)) rfl ?_
                 exact ⟨by first | rfl | (simp [errW_none, errW_some] <;> rfl) | (simp only [← hji18, ← hji19, ← hji76, ← hji80, ← hji82, ← hji83, ← hji100]; first | rfl | (simp [errW_none, errW_some] <;> rfl)) | (simp [*, errW_none, errW_some] <;> rfl), by repeat (first | (with_reducible first | exact HB.out | apply below_alloc | apply pw_below_drewN | apply below_drew1 | refine below_set ?_ GE116.out | refine below_set ?_ GE117.out | refine below_set ?_ GE118.out | refine below_set ?_ GE123.out | refine below_set ?_ GE131.out) | exact HB.out)⟩

end Go.Proofs.Yteghmmkhfgkdgaa.QS
