-- Written by a program of this session (pp.py) over the kit's printer; Lean checks it.
import Derived.Test.YteghmmkhfgkdgaaQSx0
import Derived.Test.YteghmmkhfgkdgaaQSx1
import Derived.Test.YteghmmkhfgkdgaaQSx4
import Derived.Test.YteghmmkhfgkdgaaQSx6
import Derived.Test.YteghmmkhfgkdgaaQSx9
import Derived.Test.YteghmmkhfgkdgaaQSx10
namespace Go.Proofs.Yteghmmkhfgkdgaa.QS
open Go.RowKit Go.Proofs.YteghmmkhfgkdgaaW.PrintWords Go.Proofs.YteghmmkhfgkdgaaW.PrintLast Go.Proofs.YteghmmkhfgkdgaaW.PrintMore
attribute [local go_sem] max2_int min2_int max_two min_two max_three min_three max_four min_four   -- for this text's walks alone
set_option linter.unusedVariables false
set_option linter.unusedSimpArgs false

attribute [local go_sem high] eqA28
/-! ### warpwrightlaw25_SpanMeets: function 3 -/
def warpwrightlaw25_SpanMeets.l0 : Nat → Bool → Int → Int → Int → Int → Int → Int → Int → Int → Int → Int → Int → Bool → Option (Bool)
 | 0, _, _, _, _, _, _, _, _, _, _, _, _, _ => none
 | k + 1, x5, x9, x10, x392000, x392001, x392002, x393000, x393001, x393002, x398000, x398001, x398002, x398003 => if x10 ≤ 200 then ((span_Has.f x392000 x392001 x392002 x10).bind fun t398 => (if t398 = true then ((span_Has.f x393000 x393001 x393002 x10).bind fun t399 => (if x398003 = true then ((span_Has.f x398000 x398001 x398002 x10).bind fun t400 => (if (t399 != t400) = true then (none) else (if t399 = true then (warpwrightlaw25_SpanMeets.l0 k x5 (wrap64 (x9 + 1)) (wrap64 (x10 + 1)) x392000 x392001 x392002 x393000 x393001 x393002 x398000 x398001 x398002 x398003) else (warpwrightlaw25_SpanMeets.l0 k x5 x9 (wrap64 (x10 + 1)) x392000 x392001 x392002 x393000 x393001 x393002 x398000 x398001 x398002 x398003)))) else (if (t399 != false) = true then (none) else (if t399 = true then (warpwrightlaw25_SpanMeets.l0 k x5 (wrap64 (x9 + 1)) (wrap64 (x10 + 1)) x392000 x392001 x392002 x393000 x393001 x393002 x398000 x398001 x398002 x398003) else (warpwrightlaw25_SpanMeets.l0 k x5 x9 (wrap64 (x10 + 1)) x392000 x392001 x392002 x393000 x393001 x393002 x398000 x398001 x398002 x398003))))) else (if x398003 = true then ((span_Has.f x398000 x398001 x398002 x10).bind fun t401 => (if (false != t401) = true then (none) else (warpwrightlaw25_SpanMeets.l0 k x5 x9 (wrap64 (x10 + 1)) x392000 x392001 x392002 x393000 x393001 x393002 x398000 x398001 x398002 x398003))) else (if (false != false) = true then (none) else (warpwrightlaw25_SpanMeets.l0 k x5 x9 (wrap64 (x10 + 1)) x392000 x392001 x392002 x393000 x393001 x393002 x398000 x398001 x398002 x398003))))) else (if x398003 = true then ((span_Valid.f k x398000 x398001 x398002).bind fun t402 => (if t402 = true then ((span_Size.f x398000 x398001 x398002).bind fun t403 => (if t403 = x9 then ((span_Apart.f k x392000 x392001 x392002 x393000 x393001 x393002).bind fun t404 => (if t404 = true then (none) else (some x5))) else (none))) else (none))) else (if x9 = 0 then ((span_Apart.f k x392000 x392001 x392002 x393000 x393001 x393002).bind fun t405 => (if t405 = true then (if (x398000 == 0 && (x398001 == 0 && (x398002 == 0))) = true then (some x5) else (none)) else (none))) else (none)))
def warpwrightlaw25_SpanMeets.f (k : Nat) (a0_0 : Int) (a0_1 : Int) (a0_2 : Int) (a1_0 : Int) (a1_1 : Int) (a1_2 : Int) : Option (Bool) := (warpwrightlaw25_examples.f k).bind fun t384 => (if t384 = true then ((warpwrightref25_Small.f a0_0 a0_1 a0_2).bind fun bt385 => ((warpwrightref25_Small.f a1_0 a1_1 a1_2).bind fun bt388 => ((warpwrightlaw25_meet.f k bt385.1 bt385.2.1 bt385.2.2 bt388.1 bt388.2.1 bt388.2.2).bind fun bt393 => (warpwrightlaw25_SpanMeets.l0 k t384 0 (-50) bt385.1 bt385.2.1 bt385.2.2 bt388.1 bt388.2.1 bt388.2.2 bt393.1 bt393.2.1 bt393.2.2.1 bt393.2.2.2)))) else (none))
theorem warpwrightlaw25_SpanMeets.mono_l : ∀ k, (∀ y0 y1 y2 y3 y4 y5 y6 y7 y8 y9 y10 y11 y12, LeO (warpwrightlaw25_SpanMeets.l0 k y0 y1 y2 y3 y4 y5 y6 y7 y8 y9 y10 y11 y12) (warpwrightlaw25_SpanMeets.l0 (k + 1) y0 y1 y2 y3 y4 y5 y6 y7 y8 y9 y10 y11 y12))
 | 0 => fun _ _ _ _ _ _ _ _ _ _ _ _ _ r h => by simp [warpwrightlaw25_SpanMeets.l0] at h
 | k + 1 => by
  have ih0 := warpwrightlaw25_SpanMeets.mono_l k
  ·intro y0 y1 y2 y3 y4 y5 y6 y7 y8 y9 y10 y11 y12
   unfold warpwrightlaw25_SpanMeets.l0
   repeat' first
   | (with_reducible exact ih0 _ _ _ _ _ _ _ _ _ _ _ _ _)
   | (with_reducible exact span_Apart.mono _ _ _ _ _ _ _)
   | (with_reducible exact span_Valid.mono _ _ _ _)
   | (with_reducible exact warpwrightlaw25_examples.mono _)
   | (with_reducible exact warpwrightlaw25_meet.mono _ _ _ _ _ _ _)
   | (with_reducible exact LeO.refl _)
   | (with_reducible exact LeO.none _)
   | (with_reducible refine LeO.ite ?_ ?_)
   | (with_reducible refine LeO.bind ?_ (fun _ => ?_))
   | exact ih0 _ _ _ _ _ _ _ _ _ _ _ _ _
   | exact span_Apart.mono _ _ _ _ _ _ _
   | exact span_Valid.mono _ _ _ _
   | exact warpwrightlaw25_examples.mono _
   | exact warpwrightlaw25_meet.mono _ _ _ _ _ _ _
   | exact LeO.none _
   | refine LeO.ite ?_ ?_
   | refine LeO.bind ?_ (fun _ => ?_)
theorem warpwrightlaw25_SpanMeets.mono : ∀ a0 a1 a2 a3 a4 a5 k, LeO (warpwrightlaw25_SpanMeets.f k a0 a1 a2 a3 a4 a5) (warpwrightlaw25_SpanMeets.f (k + 1) a0 a1 a2 a3 a4 a5) := by
 intro a0 a1 a2 a3 a4 a5 k
 have ih0 := warpwrightlaw25_SpanMeets.mono_l k
 unfold warpwrightlaw25_SpanMeets.f
 repeat' first
   | (with_reducible exact ih0 _ _ _ _ _ _ _ _ _ _ _ _ _)
   | (with_reducible exact span_Apart.mono _ _ _ _ _ _ _)
   | (with_reducible exact span_Valid.mono _ _ _ _)
   | (with_reducible exact warpwrightlaw25_examples.mono _)
   | (with_reducible exact warpwrightlaw25_meet.mono _ _ _ _ _ _ _)
   | (with_reducible exact LeO.refl _)
   | (with_reducible exact LeO.none _)
   | (with_reducible refine LeO.ite ?_ ?_)
   | (with_reducible refine LeO.bind ?_ (fun _ => ?_))
   | exact ih0 _ _ _ _ _ _ _ _ _ _ _ _ _
   | exact span_Apart.mono _ _ _ _ _ _ _
   | exact span_Valid.mono _ _ _ _
   | exact warpwrightlaw25_examples.mono _
   | exact warpwrightlaw25_meet.mono _ _ _ _ _ _ _
   | exact LeO.none _
   | refine LeO.ite ?_ ?_
   | refine LeO.bind ?_ (fun _ => ?_)
def warpwrightlaw25_SpanMeets.T4 : Bool × List (List Nat × List Nat) := (true, [([], []), ([0], [0]), ([], []), ([2, 1], [2]), ([], []), ([], []), ([4, 1, 3, 0, 1, 4, 5], [1, 4]), ([5, 3, 6, 0, 1, 2, 3, 4, 5, 6], [3, 5])])
def warpwrightlaw25_SpanMeets.B4 : List Nat := [0, 1, 0, 7, 0, 0, 63, 127]
theorem warpwrightlaw25_SpanMeets.tab4 : rtab .any (opsOf Try.f3 4) = warpwrightlaw25_SpanMeets.T4 := by kernel_rfl
theorem warpwrightlaw25_SpanMeets.bits4 : waitsOk warpwrightlaw25_SpanMeets.T4.2 warpwrightlaw25_SpanMeets.B4 = true := by kernel_rfl
set_option maxHeartbeats 8000000 in
set_option maxRecDepth 100000 in
theorem warpwrightlaw25_SpanMeets.calls (k : Nat) (a0_0 : Int) (a0_1 : Int) (a0_2 : Int) (a1_0 : Int) (a1_1 : Int) (a1_2 : Int) (r : Bool) (w : World) (h : warpwrightlaw25_SpanMeets.f k a0_0 a0_1 a0_2 a1_0 a1_1 a1_2 = some r) :
  Calls Try.prog 3 #[.agg #[.int .i64 a0_0, .int .u32 a0_1, .int .u16 a0_2], .agg #[.int .i64 a1_0, .int .u32 a1_1, .int .u16 a1_2]] w fun e w' => e = .returned (.bool r) ∧ Below w.heap.size w w' := by
 have hu25 := Try.underlying25
 have hu28 := Try.underlying28
 have hu31 := Try.underlying31
 have HB := Aside0.mk (Below.refl w.heap.size w)
 have H : ((warpwrightlaw25_examples.f k).bind fun t384 => (if t384 = true then ((warpwrightref25_Small.f a0_0 a0_1 a0_2).bind fun bt385 => ((warpwrightref25_Small.f a1_0 a1_1 a1_2).bind fun bt388 => ((warpwrightlaw25_meet.f k bt385.1 bt385.2.1 bt385.2.2 bt388.1 bt388.2.1 bt388.2.2).bind fun bt393 => (warpwrightlaw25_SpanMeets.l0 k t384 0 (-50) bt385.1 bt385.2.1 bt385.2.2 bt388.1 bt388.2.1 bt388.2.2 bt393.1 bt393.2.1 bt393.2.2.1 bt393.2.2.2)))) else (none))) = some r := h
 clear h
 replace H := Option.bind_eq_some_iff.mp H
 obtain ⟨t384, A30, H⟩ := H
 replace H : (if t384 = true then ((warpwrightref25_Small.f a0_0 a0_1 a0_2).bind fun bt385 => ((warpwrightref25_Small.f a1_0 a1_1 a1_2).bind fun bt388 => ((warpwrightlaw25_meet.f k bt385.1 bt385.2.1 bt385.2.2 bt388.1 bt388.2.1 bt388.2.2).bind fun bt393 => (warpwrightlaw25_SpanMeets.l0 k t384 0 (-50) bt385.1 bt385.2.1 bt385.2.2 bt388.1 bt388.2.1 bt388.2.2 bt393.1 bt393.2.1 bt393.2.2.1 bt393.2.2.2)))) else (none)) = some r := H
 have A3 := Aside0.mk A30
 clear A30
 by_cases c4 : t384 = true
 ·subst c4
  have H1 : ((warpwrightref25_Small.f a0_0 a0_1 a0_2).bind fun bt385 => ((warpwrightref25_Small.f a1_0 a1_1 a1_2).bind fun bt388 => ((warpwrightlaw25_meet.f k bt385.1 bt385.2.1 bt385.2.2 bt388.1 bt388.2.1 bt388.2.2).bind fun bt393 => (warpwrightlaw25_SpanMeets.l0 k true 0 (-50) bt385.1 bt385.2.1 bt385.2.2 bt388.1 bt388.2.1 bt388.2.2 bt393.1 bt393.2.1 bt393.2.2.1 bt393.2.2.2)))) = some r := by rw [if_pos rfl] at H; exact H
  clear H
  have H := H1
  clear H1
  replace H := Option.bind_eq_some_iff.mp H
  obtain ⟨⟨t385, t386, t387⟩, A50, H⟩ := H
  replace H : ((warpwrightref25_Small.f a1_0 a1_1 a1_2).bind fun bt388 => ((warpwrightlaw25_meet.f k t385 t386 t387 bt388.1 bt388.2.1 bt388.2.2).bind fun bt393 => (warpwrightlaw25_SpanMeets.l0 k true 0 (-50) t385 t386 t387 bt388.1 bt388.2.1 bt388.2.2 bt393.1 bt393.2.1 bt393.2.2.1 bt393.2.2.2))) = some r := H
  have A5 := Aside0.mk A50
  clear A50
  replace H := Option.bind_eq_some_iff.mp H
  obtain ⟨⟨t388, t389, t390⟩, A60, H⟩ := H
  replace H : ((warpwrightlaw25_meet.f k t385 t386 t387 t388 t389 t390).bind fun bt393 => (warpwrightlaw25_SpanMeets.l0 k true 0 (-50) t385 t386 t387 t388 t389 t390 bt393.1 bt393.2.1 bt393.2.2.1 bt393.2.2.2)) = some r := H
  have A6 := Aside0.mk A60
  clear A60
  replace H := Option.bind_eq_some_iff.mp H
  obtain ⟨⟨t393, t394, t395, t396⟩, A70, H⟩ := H
  replace H : (warpwrightlaw25_SpanMeets.l0 k true 0 (-50) t385 t386 t387 t388 t389 t390 t393 t394 t395 t396) = some r := H
  have A7 := Aside0.mk A70
  clear A70
  have H' := Aside0.mk H
  clear H
  go_enter Try.func3, Try.ntmps3
  try go_wp2_with (first | ((with_reducible refine gate_dst (N := 2) rfl ?_); refine box_event ?hg (N := 2) ?hd (cs := #[.int .i64 a0_0, .int .u32 a0_1, .int .u16 a0_2]) (t := 25) ?hr ?_; (case hd => rfl); (case hg => rfl); (case hr => first | (go_simp; done) | (go_simp; rfl)); intro gb382 hg w8 hbox hb; have n0_ := Aside0.mk (below_step (bl_ HB) hb); have n1_ := Aside0.mk (hbox); have n2_ := Aside0.mk ((by rw [hg]; exact (below_size (bl_ HB)) : w.heap.size ≤ gb382)); have n3_ := Aside0.mk ((by rw [hg]; exact (below_size (bl_ HB)) : w.heap.size ≤ gb382)); clear HB; have HB := n0_; have BK382 := n1_; have GW382 := n2_; have GE382 := n3_; clear n0_ n1_ n2_ n3_; clear hb hbox hg) | ((with_reducible refine gate_dst (N := 3) rfl ?_); refine box_event ?hg (N := 3) ?hd (cs := #[.int .i64 a1_0, .int .u32 a1_1, .int .u16 a1_2]) (t := 25) ?hr ?_; (case hd => rfl); (case hg => rfl); (case hr => first | (go_simp; done) | (go_simp; rfl)); intro gb383 hg w9 hbox hb; have n0_ := Aside0.mk (blk_below (g := gb382) (o := .cells #[.int .i64 a0_0, .int .u32 a0_1, .int .u16 a0_2] 25 (0, 0)) (bk_ BK382) hb); have n1_ := Aside0.mk (below_step (bl_ HB) hb); have n2_ := Aside0.mk (hbox); have n3_ := Aside0.mk ((by rw [hg]; exact (below_size (bl_ HB)) : w.heap.size ≤ gb383)); have n4_ := Aside0.mk ((by rw [hg]; exact (below_size (bl_ HB)) : w.heap.size ≤ gb383)); have n5_ := Aside0.mk ((by rw [hg]; exact Nat.ne_of_lt (blk_lt (g := gb382) (o := .cells #[.int .i64 a0_0, .int .u32 a0_1, .int .u16 a0_2] 25 (0, 0)) (bk_ BK382)) : gb382 ≠ gb383)); have n6_ := Aside0.mk ((by rw [hg]; exact Nat.ne_of_gt (blk_lt (g := gb382) (o := .cells #[.int .i64 a0_0, .int .u32 a0_1, .int .u16 a0_2] 25 (0, 0)) (bk_ BK382)) : gb383 ≠ gb382)); clear BK382; clear HB; have BK382 := n0_; have HB := n1_; have BK383 := n2_; have GW383 := n3_; have GE383 := n4_; have NB382_383 := n5_; have NB383_382 := n6_; clear n0_ n1_ n2_ n3_ n4_ n5_ n6_; clear hb hbox hg) | ((with_reducible refine gate_callee (f := 10) rfl ?_); refine goesL_ (some 12) rfl rfl Try.func10 (by kernel_rfl) rfl #[] rfl am_ ?_; (with_reducible refine (warpwrightlaw25_examples.calls k  true _ A3.out).mono ?_); rintro e w10 ⟨rfl, hb⟩; refine ⟨_, rfl, ?_⟩; have n0_ := Aside0.mk (blk_below (g := gb382) (o := .cells #[.int .i64 a0_0, .int .u32 a0_1, .int .u16 a0_2] 25 (0, 0)) (bk_ BK382) hb); have n1_ := Aside0.mk (blk_below (g := gb383) (o := .cells #[.int .i64 a1_0, .int .u32 a1_1, .int .u16 a1_2] 25 (0, 0)) (bk_ BK383) hb); have n2_ := Aside0.mk (below_step (bl_ HB) hb); clear BK382; clear BK383; clear HB; have BK382 := n0_; have BK383 := n1_; have HB := n2_; clear n0_ n1_ n2_; (try clear hb); (try clear hb2); (try clear hk); (try clear hi)))
  have n0_ := Aside0.mk (blk_drew BK382.out)
  have n1_ := Aside0.mk (blk_drew BK383.out)
  have n2_ := Aside0.mk (below_drew1 HB.out)
  clear BK382
  clear BK383
  clear HB
  have BK382 := n0_
  have BK383 := n1_
  have HB := n2_
  clear n0_ n1_ n2_
  refine start_ (n := 8) (S := fun w' => w'.cell? ⟨gb382, 0, none⟩ = some (.int .i64 a0_0) ∧ w'.cell? ⟨gb382, 1, none⟩ = some (.int .u32 a0_1) ∧ w'.cell? ⟨gb382, 2, none⟩ = some (.int .u16 a0_2) ∧ w'.cell? ⟨gb383, 0, none⟩ = some (.int .i64 a1_0) ∧ w'.cell? ⟨gb383, 1, none⟩ = some (.int .u32 a1_1) ∧ w'.cell? ⟨gb383, 2, none⟩ = some (.int .u16 a1_2)) (ds := []) #[false, false, false, false, false, false, false, false] (by kernel_rfl) rfl rfl ⟨(blk_cell BK382.out 0).trans rfl, (blk_cell BK382.out 1).trans rfl, (blk_cell BK382.out 2).trans rfl, (blk_cell BK383.out 0).trans rfl, (blk_cell BK383.out 1).trans rfl, (blk_cell BK383.out 2).trans rfl⟩ (fun hHeld => ?_); refine with_tabW warpwrightlaw25_SpanMeets.tab4 warpwrightlaw25_SpanMeets.bits4 (fun HT_ HW_ => ?_)
  generalize w10.drew = w11 at BK382 BK383 HB hHeld ⊢
  refine take_ (i := 0) (N := some 15) (v := ?_) (a' := ?_) #[true, false, false, false, false, false, false, false] rfl rfl (take_ofW HT_.out HW_.out (by kernel_rfl)) (fun _ _ _ h => h) (Or.inl ⟨by rfl, ?_⟩) hHeld ?_ ?_
  rotate_left
  ·rintro w' ⟨s0, s1, s2, s3, s4, s5⟩
   go_simp
   with_reducible rfl
  rotate_left
  ·simp only [Act.put, List.setIfInBounds_toArray, List.set_cons_zero, List.set_cons_succ, i64_w, i32_w]
   rfl
  refine take_ (i := 2) (N := some 17) (v := ?_) (a' := ?_) #[true, false, true, false, false, false, false, false] rfl rfl (take_ofW HT_.out HW_.out (by kernel_rfl)) (fun _ _ _ h => h) (Or.inl ⟨by rfl, ?_⟩) hHeld ?_ ?_
  rotate_left
  ·rintro w' ⟨s0, s1, s2, s3, s4, s5⟩
   go_simp
   with_reducible rfl
  rotate_left
  ·simp only [Act.put, List.setIfInBounds_toArray, List.set_cons_zero, List.set_cons_succ, i64_w, i32_w]
   rfl
  refine join_ (σ := Nat × Nat) 2 #[true, true, true, true, true, true, false, false] (fun s_ => [(16, .agg #[.int .i64 t385, .int .i64 t386, .int .i64 t387]), (18, .agg #[.int .i64 t388, .int .i64 t389, .int .i64 t390]), (6, .pointer (some ⟨s_.1, 0, none⟩)), (7, .pointer (some ⟨s_.2, 0, none⟩))]) (fun s_ w' => (w'.cell? ⟨gb382, 0, none⟩ = some (.int .i64 a0_0) ∧ w'.cell? ⟨gb382, 1, none⟩ = some (.int .u32 a0_1) ∧ w'.cell? ⟨gb382, 2, none⟩ = some (.int .u16 a0_2) ∧ w'.cell? ⟨gb383, 0, none⟩ = some (.int .i64 a1_0) ∧ w'.cell? ⟨gb383, 1, none⟩ = some (.int .u32 a1_1) ∧ w'.cell? ⟨gb383, 2, none⟩ = some (.int .u16 a1_2)) ∧ (w'.heap[gb382]? = some (.cells #[.int .i64 a0_0, .int .u32 a0_1, .int .u16 a0_2] 25 (0, 0))) ∧ (w'.heap[gb383]? = some (.cells #[.int .i64 a1_0, .int .u32 a1_1, .int .u16 a1_2] 25 (0, 0))) ∧ (w'.heap[s_.1]? = some (.cells #[.int .i64 0, .int .i64 0, .int .i64 0] 28 (0, 0))) ∧ (w'.heap[s_.2]? = some (.cells #[.int .i64 0, .int .i64 0, .int .i64 0] 28 (0, 0))) ∧ (w.heap.size ≤ s_.1) ∧ (w.heap.size ≤ s_.1) ∧ (gb382 ≠ s_.1) ∧ (s_.1 ≠ gb382) ∧ (gb383 ≠ s_.1) ∧ (s_.1 ≠ gb383) ∧ (s_.2 ≠ s_.1) ∧ (s_.1 ≠ s_.2) ∧ (w.heap.size ≤ s_.2) ∧ (w.heap.size ≤ s_.2) ∧ (gb382 ≠ s_.2) ∧ (s_.2 ≠ gb382) ∧ (gb383 ≠ s_.2) ∧ (s_.2 ≠ gb383) ∧ (Below w.heap.size w w')) ?_ ?_
  rotate_left
  ·intro hJ1_3_4_5
   refine join_ (σ := Nat) 3 #[true, true, true, true, true, false, false, false] (fun s_ => [(16, .agg #[.int .i64 t385, .int .i64 t386, .int .i64 t387]), (18, .agg #[.int .i64 t388, .int .i64 t389, .int .i64 t390]), (6, .pointer (some ⟨s_, 0, none⟩))]) (fun s_ w' => (w'.cell? ⟨gb382, 0, none⟩ = some (.int .i64 a0_0) ∧ w'.cell? ⟨gb382, 1, none⟩ = some (.int .u32 a0_1) ∧ w'.cell? ⟨gb382, 2, none⟩ = some (.int .u16 a0_2) ∧ w'.cell? ⟨gb383, 0, none⟩ = some (.int .i64 a1_0) ∧ w'.cell? ⟨gb383, 1, none⟩ = some (.int .u32 a1_1) ∧ w'.cell? ⟨gb383, 2, none⟩ = some (.int .u16 a1_2)) ∧ (w'.heap[gb382]? = some (.cells #[.int .i64 a0_0, .int .u32 a0_1, .int .u16 a0_2] 25 (0, 0))) ∧ (w'.heap[gb383]? = some (.cells #[.int .i64 a1_0, .int .u32 a1_1, .int .u16 a1_2] 25 (0, 0))) ∧ (w'.heap[s_]? = some (.cells #[.int .i64 0, .int .i64 0, .int .i64 0] 28 (0, 0))) ∧ (w.heap.size ≤ s_) ∧ (w.heap.size ≤ s_) ∧ (gb382 ≠ s_) ∧ (s_ ≠ gb382) ∧ (gb383 ≠ s_) ∧ (s_ ≠ gb383) ∧ (Below w.heap.size w w')) ?_ ?_
   rotate_left
   ·intro hJ1_3_4
    refine join_ (σ := Nat) 3 #[true, true, true, true, false, true, false, false] (fun s_ => [(16, .agg #[.int .i64 t385, .int .i64 t386, .int .i64 t387]), (18, .agg #[.int .i64 t388, .int .i64 t389, .int .i64 t390]), (7, .pointer (some ⟨s_, 0, none⟩))]) (fun s_ w' => (w'.cell? ⟨gb382, 0, none⟩ = some (.int .i64 a0_0) ∧ w'.cell? ⟨gb382, 1, none⟩ = some (.int .u32 a0_1) ∧ w'.cell? ⟨gb382, 2, none⟩ = some (.int .u16 a0_2) ∧ w'.cell? ⟨gb383, 0, none⟩ = some (.int .i64 a1_0) ∧ w'.cell? ⟨gb383, 1, none⟩ = some (.int .u32 a1_1) ∧ w'.cell? ⟨gb383, 2, none⟩ = some (.int .u16 a1_2)) ∧ (w'.heap[gb382]? = some (.cells #[.int .i64 a0_0, .int .u32 a0_1, .int .u16 a0_2] 25 (0, 0))) ∧ (w'.heap[gb383]? = some (.cells #[.int .i64 a1_0, .int .u32 a1_1, .int .u16 a1_2] 25 (0, 0))) ∧ (w'.heap[s_]? = some (.cells #[.int .i64 0, .int .i64 0, .int .i64 0] 28 (0, 0))) ∧ (w.heap.size ≤ s_) ∧ (w.heap.size ≤ s_) ∧ (gb382 ≠ s_) ∧ (s_ ≠ gb382) ∧ (gb383 ≠ s_) ∧ (s_ ≠ gb383) ∧ (Below w.heap.size w w')) ?_ ?_
    rotate_left
    ·intro hJ1_3_5
     refine join_ (σ := Nat × Nat) 3 #[true, true, true, false, true, true, false, false] (fun s_ => [(16, .agg #[.int .i64 t385, .int .i64 t386, .int .i64 t387]), (6, .pointer (some ⟨s_.1, 0, none⟩)), (7, .pointer (some ⟨s_.2, 0, none⟩))]) (fun s_ w' => (w'.cell? ⟨gb382, 0, none⟩ = some (.int .i64 a0_0) ∧ w'.cell? ⟨gb382, 1, none⟩ = some (.int .u32 a0_1) ∧ w'.cell? ⟨gb382, 2, none⟩ = some (.int .u16 a0_2) ∧ w'.cell? ⟨gb383, 0, none⟩ = some (.int .i64 a1_0) ∧ w'.cell? ⟨gb383, 1, none⟩ = some (.int .u32 a1_1) ∧ w'.cell? ⟨gb383, 2, none⟩ = some (.int .u16 a1_2)) ∧ (w'.heap[gb382]? = some (.cells #[.int .i64 a0_0, .int .u32 a0_1, .int .u16 a0_2] 25 (0, 0))) ∧ (w'.heap[gb383]? = some (.cells #[.int .i64 a1_0, .int .u32 a1_1, .int .u16 a1_2] 25 (0, 0))) ∧ (w'.heap[s_.1]? = some (.cells #[.int .i64 0, .int .i64 0, .int .i64 0] 28 (0, 0))) ∧ (w'.heap[s_.2]? = some (.cells #[.int .i64 0, .int .i64 0, .int .i64 0] 28 (0, 0))) ∧ (w.heap.size ≤ s_.1) ∧ (w.heap.size ≤ s_.1) ∧ (gb382 ≠ s_.1) ∧ (s_.1 ≠ gb382) ∧ (gb383 ≠ s_.1) ∧ (s_.1 ≠ gb383) ∧ (s_.2 ≠ s_.1) ∧ (s_.1 ≠ s_.2) ∧ (w.heap.size ≤ s_.2) ∧ (w.heap.size ≤ s_.2) ∧ (gb382 ≠ s_.2) ∧ (s_.2 ≠ gb382) ∧ (gb383 ≠ s_.2) ∧ (s_.2 ≠ gb383) ∧ (Below w.heap.size w w')) ?_ ?_
     rotate_left
     ·intro hJ1_4_5
      refine join_ (σ := Unit) 4 #[true, true, true, true, false, false, false, false] (fun s_ => [(16, .agg #[.int .i64 t385, .int .i64 t386, .int .i64 t387]), (18, .agg #[.int .i64 t388, .int .i64 t389, .int .i64 t390])]) (fun s_ w' => (w'.cell? ⟨gb382, 0, none⟩ = some (.int .i64 a0_0) ∧ w'.cell? ⟨gb382, 1, none⟩ = some (.int .u32 a0_1) ∧ w'.cell? ⟨gb382, 2, none⟩ = some (.int .u16 a0_2) ∧ w'.cell? ⟨gb383, 0, none⟩ = some (.int .i64 a1_0) ∧ w'.cell? ⟨gb383, 1, none⟩ = some (.int .u32 a1_1) ∧ w'.cell? ⟨gb383, 2, none⟩ = some (.int .u16 a1_2)) ∧ (w'.heap[gb382]? = some (.cells #[.int .i64 a0_0, .int .u32 a0_1, .int .u16 a0_2] 25 (0, 0))) ∧ (w'.heap[gb383]? = some (.cells #[.int .i64 a1_0, .int .u32 a1_1, .int .u16 a1_2] 25 (0, 0))) ∧ (Below w.heap.size w w')) ?_ ?_
      rotate_left
      ·intro hJ1_3
       refine join_ (σ := Nat) 4 #[true, true, true, false, true, false, false, false] (fun s_ => [(16, .agg #[.int .i64 t385, .int .i64 t386, .int .i64 t387]), (6, .pointer (some ⟨s_, 0, none⟩))]) (fun s_ w' => (w'.cell? ⟨gb382, 0, none⟩ = some (.int .i64 a0_0) ∧ w'.cell? ⟨gb382, 1, none⟩ = some (.int .u32 a0_1) ∧ w'.cell? ⟨gb382, 2, none⟩ = some (.int .u16 a0_2) ∧ w'.cell? ⟨gb383, 0, none⟩ = some (.int .i64 a1_0) ∧ w'.cell? ⟨gb383, 1, none⟩ = some (.int .u32 a1_1) ∧ w'.cell? ⟨gb383, 2, none⟩ = some (.int .u16 a1_2)) ∧ (w'.heap[gb382]? = some (.cells #[.int .i64 a0_0, .int .u32 a0_1, .int .u16 a0_2] 25 (0, 0))) ∧ (w'.heap[gb383]? = some (.cells #[.int .i64 a1_0, .int .u32 a1_1, .int .u16 a1_2] 25 (0, 0))) ∧ (w'.heap[s_]? = some (.cells #[.int .i64 0, .int .i64 0, .int .i64 0] 28 (0, 0))) ∧ (w.heap.size ≤ s_) ∧ (w.heap.size ≤ s_) ∧ (gb382 ≠ s_) ∧ (s_ ≠ gb382) ∧ (gb383 ≠ s_) ∧ (s_ ≠ gb383) ∧ (Below w.heap.size w w')) ?_ ?_
       rotate_left
       ·intro hJ1_4
        refine join_ (σ := Nat) 4 #[true, true, true, false, false, true, false, false] (fun s_ => [(16, .agg #[.int .i64 t385, .int .i64 t386, .int .i64 t387]), (7, .pointer (some ⟨s_, 0, none⟩))]) (fun s_ w' => (w'.cell? ⟨gb382, 0, none⟩ = some (.int .i64 a0_0) ∧ w'.cell? ⟨gb382, 1, none⟩ = some (.int .u32 a0_1) ∧ w'.cell? ⟨gb382, 2, none⟩ = some (.int .u16 a0_2) ∧ w'.cell? ⟨gb383, 0, none⟩ = some (.int .i64 a1_0) ∧ w'.cell? ⟨gb383, 1, none⟩ = some (.int .u32 a1_1) ∧ w'.cell? ⟨gb383, 2, none⟩ = some (.int .u16 a1_2)) ∧ (w'.heap[gb382]? = some (.cells #[.int .i64 a0_0, .int .u32 a0_1, .int .u16 a0_2] 25 (0, 0))) ∧ (w'.heap[gb383]? = some (.cells #[.int .i64 a1_0, .int .u32 a1_1, .int .u16 a1_2] 25 (0, 0))) ∧ (w'.heap[s_]? = some (.cells #[.int .i64 0, .int .i64 0, .int .i64 0] 28 (0, 0))) ∧ (w.heap.size ≤ s_) ∧ (w.heap.size ≤ s_) ∧ (gb382 ≠ s_) ∧ (s_ ≠ gb382) ∧ (gb383 ≠ s_) ∧ (s_ ≠ gb383) ∧ (Below w.heap.size w w')) ?_ ?_
        rotate_left
        ·intro hJ1_5
         refine join_ (σ := Nat × Nat) 4 #[true, false, true, false, true, true, false, false] (fun s_ => [(6, .pointer (some ⟨s_.1, 0, none⟩)), (7, .pointer (some ⟨s_.2, 0, none⟩))]) (fun s_ w' => (w'.cell? ⟨gb382, 0, none⟩ = some (.int .i64 a0_0) ∧ w'.cell? ⟨gb382, 1, none⟩ = some (.int .u32 a0_1) ∧ w'.cell? ⟨gb382, 2, none⟩ = some (.int .u16 a0_2) ∧ w'.cell? ⟨gb383, 0, none⟩ = some (.int .i64 a1_0) ∧ w'.cell? ⟨gb383, 1, none⟩ = some (.int .u32 a1_1) ∧ w'.cell? ⟨gb383, 2, none⟩ = some (.int .u16 a1_2)) ∧ (w'.heap[gb382]? = some (.cells #[.int .i64 a0_0, .int .u32 a0_1, .int .u16 a0_2] 25 (0, 0))) ∧ (w'.heap[gb383]? = some (.cells #[.int .i64 a1_0, .int .u32 a1_1, .int .u16 a1_2] 25 (0, 0))) ∧ (w'.heap[s_.1]? = some (.cells #[.int .i64 0, .int .i64 0, .int .i64 0] 28 (0, 0))) ∧ (w'.heap[s_.2]? = some (.cells #[.int .i64 0, .int .i64 0, .int .i64 0] 28 (0, 0))) ∧ (w.heap.size ≤ s_.1) ∧ (w.heap.size ≤ s_.1) ∧ (gb382 ≠ s_.1) ∧ (s_.1 ≠ gb382) ∧ (gb383 ≠ s_.1) ∧ (s_.1 ≠ gb383) ∧ (s_.2 ≠ s_.1) ∧ (s_.1 ≠ s_.2) ∧ (w.heap.size ≤ s_.2) ∧ (w.heap.size ≤ s_.2) ∧ (gb382 ≠ s_.2) ∧ (s_.2 ≠ gb382) ∧ (gb383 ≠ s_.2) ∧ (s_.2 ≠ gb383) ∧ (Below w.heap.size w w')) ?_ ?_
         rotate_left
         ·intro hJ4_5
          refine join_ (σ := Unit) 5 #[true, true, true, false, false, false, false, false] (fun s_ => [(16, .agg #[.int .i64 t385, .int .i64 t386, .int .i64 t387])]) (fun s_ w' => (w'.cell? ⟨gb382, 0, none⟩ = some (.int .i64 a0_0) ∧ w'.cell? ⟨gb382, 1, none⟩ = some (.int .u32 a0_1) ∧ w'.cell? ⟨gb382, 2, none⟩ = some (.int .u16 a0_2) ∧ w'.cell? ⟨gb383, 0, none⟩ = some (.int .i64 a1_0) ∧ w'.cell? ⟨gb383, 1, none⟩ = some (.int .u32 a1_1) ∧ w'.cell? ⟨gb383, 2, none⟩ = some (.int .u16 a1_2)) ∧ (w'.heap[gb382]? = some (.cells #[.int .i64 a0_0, .int .u32 a0_1, .int .u16 a0_2] 25 (0, 0))) ∧ (w'.heap[gb383]? = some (.cells #[.int .i64 a1_0, .int .u32 a1_1, .int .u16 a1_2] 25 (0, 0))) ∧ (Below w.heap.size w w')) ?_ ?_
          rotate_left
          ·intro hJ1
           refine join_ (σ := Nat) 5 #[true, false, true, false, true, false, false, false] (fun s_ => [(6, .pointer (some ⟨s_, 0, none⟩))]) (fun s_ w' => (w'.cell? ⟨gb382, 0, none⟩ = some (.int .i64 a0_0) ∧ w'.cell? ⟨gb382, 1, none⟩ = some (.int .u32 a0_1) ∧ w'.cell? ⟨gb382, 2, none⟩ = some (.int .u16 a0_2) ∧ w'.cell? ⟨gb383, 0, none⟩ = some (.int .i64 a1_0) ∧ w'.cell? ⟨gb383, 1, none⟩ = some (.int .u32 a1_1) ∧ w'.cell? ⟨gb383, 2, none⟩ = some (.int .u16 a1_2)) ∧ (w'.heap[gb382]? = some (.cells #[.int .i64 a0_0, .int .u32 a0_1, .int .u16 a0_2] 25 (0, 0))) ∧ (w'.heap[gb383]? = some (.cells #[.int .i64 a1_0, .int .u32 a1_1, .int .u16 a1_2] 25 (0, 0))) ∧ (w'.heap[s_]? = some (.cells #[.int .i64 0, .int .i64 0, .int .i64 0] 28 (0, 0))) ∧ (w.heap.size ≤ s_) ∧ (w.heap.size ≤ s_) ∧ (gb382 ≠ s_) ∧ (s_ ≠ gb382) ∧ (gb383 ≠ s_) ∧ (s_ ≠ gb383) ∧ (Below w.heap.size w w')) ?_ ?_
           rotate_left
           ·intro hJ4
            refine join_ (σ := Nat) 5 #[true, false, true, false, false, true, false, false] (fun s_ => [(7, .pointer (some ⟨s_, 0, none⟩))]) (fun s_ w' => (w'.cell? ⟨gb382, 0, none⟩ = some (.int .i64 a0_0) ∧ w'.cell? ⟨gb382, 1, none⟩ = some (.int .u32 a0_1) ∧ w'.cell? ⟨gb382, 2, none⟩ = some (.int .u16 a0_2) ∧ w'.cell? ⟨gb383, 0, none⟩ = some (.int .i64 a1_0) ∧ w'.cell? ⟨gb383, 1, none⟩ = some (.int .u32 a1_1) ∧ w'.cell? ⟨gb383, 2, none⟩ = some (.int .u16 a1_2)) ∧ (w'.heap[gb382]? = some (.cells #[.int .i64 a0_0, .int .u32 a0_1, .int .u16 a0_2] 25 (0, 0))) ∧ (w'.heap[gb383]? = some (.cells #[.int .i64 a1_0, .int .u32 a1_1, .int .u16 a1_2] 25 (0, 0))) ∧ (w'.heap[s_]? = some (.cells #[.int .i64 0, .int .i64 0, .int .i64 0] 28 (0, 0))) ∧ (w.heap.size ≤ s_) ∧ (w.heap.size ≤ s_) ∧ (gb382 ≠ s_) ∧ (s_ ≠ gb382) ∧ (gb383 ≠ s_) ∧ (s_ ≠ gb383) ∧ (Below w.heap.size w w')) ?_ ?_
            rotate_left
            ·intro hJ5
             refine three_ (i := 1) (j := 4) (k := 5) (Ni := some 16) (Nj := some 6) (Nk := some 7) #[true, true, true, false, false, false, false, false] #[true, false, true, false, true, false, false, false] #[true, false, true, false, false, true, false, false] rfl rfl rfl rfl rfl rfl (three_of HT_.out (by kernel_rfl)) (by decide) (by decide) (by decide) (fun K hK => ?_) (fun K hK => ?_) (fun K hK => ?_)
             ·skip
              refine goes_ Try.func11 (by kernel_rfl) rfl #[.agg #[.int .i64 a0_0, .int .u32 a0_1, .int .u16 a0_2]] (by rfl) rfl rfl am_ ?_
              with_reducible refine (warpwrightref25_Small.calls a0_0 a0_1 a0_2 t385 t386 t387 _ A5.out).mono ?_
              rintro e w12 ⟨rfl, hb⟩
              refine ⟨_, rfl, ?_⟩
              have n0_ := Aside0.mk (blk_below (g := gb382) (o := .cells #[.int .i64 a0_0, .int .u32 a0_1, .int .u16 a0_2] 25 (0, 0)) (bk_ BK382) hb)
              have n1_ := Aside0.mk (blk_below (g := gb383) (o := .cells #[.int .i64 a1_0, .int .u32 a1_1, .int .u16 a1_2] 25 (0, 0)) (bk_ BK383) hb)
              have n2_ := Aside0.mk (below_step (bl_ HB) hb)
              clear BK382
              clear BK383
              clear HB
              have BK382 := n0_
              have BK383 := n1_
              have HB := n2_
              clear n0_ n1_ n2_
              (try clear hb)
              (try clear hb2)
              (try clear hk)
              (try clear hi)
              refine hK.out _ _ ⟨(blk_cell BK382.out 0).trans rfl, (blk_cell BK382.out 1).trans rfl, (blk_cell BK382.out 2).trans rfl, (blk_cell BK383.out 0).trans rfl, (blk_cell BK383.out 1).trans rfl, (blk_cell BK383.out 2).trans rfl⟩ (fun hHeld => ?_)
              clear hK K
              refine norm_ (a' := ?_) ?_ ?_
              rotate_left
              ·show Act.put _ (some 16) _ = _
               simp only [Act.put, List.setIfInBounds_toArray, List.set_cons_zero, List.set_cons_succ, i64_w, i32_w]
               rfl
              exact norm_ (by first | (simp only [putAll, Act.put, List.setIfInBounds_toArray, List.set_cons_zero, List.set_cons_succ]; done) | (simp only [putAll, Act.put, List.setIfInBounds_toArray, List.set_cons_zero, List.set_cons_succ]; rfl)) (hJ1 () _ ⟨hHeld, (bk_ BK382), (bk_ BK383), (bl_ HB)⟩)
             ·skip
              refine box_step ?hg (N := 6) ?hd (cs := #[.int .i64 0, .int .i64 0, .int .i64 0]) (t := 28) ?hr ?_; (case hd => rfl); (case hg => rfl); (case hr => first | (go_simp; done) | (go_simp; rfl))
              intro gb391 hg w12 hbox hb
              have n0_ := Aside0.mk (blk_below (g := gb382) (o := .cells #[.int .i64 a0_0, .int .u32 a0_1, .int .u16 a0_2] 25 (0, 0)) (bk_ BK382) hb)
              have n1_ := Aside0.mk (blk_below (g := gb383) (o := .cells #[.int .i64 a1_0, .int .u32 a1_1, .int .u16 a1_2] 25 (0, 0)) (bk_ BK383) hb)
              have n2_ := Aside0.mk (below_step (bl_ HB) hb)
              have n3_ := Aside0.mk (hbox)
              have n4_ := Aside0.mk ((by rw [hg]; exact (below_size (bl_ HB)) : w.heap.size ≤ gb391))
              have n5_ := Aside0.mk ((by rw [hg]; exact (below_size (bl_ HB)) : w.heap.size ≤ gb391))
              have n6_ := Aside0.mk ((by rw [hg]; exact Nat.ne_of_lt (blk_lt (g := gb382) (o := .cells #[.int .i64 a0_0, .int .u32 a0_1, .int .u16 a0_2] 25 (0, 0)) (bk_ BK382)) : gb382 ≠ gb391))
              have n7_ := Aside0.mk ((by rw [hg]; exact Nat.ne_of_gt (blk_lt (g := gb382) (o := .cells #[.int .i64 a0_0, .int .u32 a0_1, .int .u16 a0_2] 25 (0, 0)) (bk_ BK382)) : gb391 ≠ gb382))
              have n8_ := Aside0.mk ((by rw [hg]; exact Nat.ne_of_lt (blk_lt (g := gb383) (o := .cells #[.int .i64 a1_0, .int .u32 a1_1, .int .u16 a1_2] 25 (0, 0)) (bk_ BK383)) : gb383 ≠ gb391))
              have n9_ := Aside0.mk ((by rw [hg]; exact Nat.ne_of_gt (blk_lt (g := gb383) (o := .cells #[.int .i64 a1_0, .int .u32 a1_1, .int .u16 a1_2] 25 (0, 0)) (bk_ BK383)) : gb391 ≠ gb383))
              clear BK382
              clear BK383
              clear HB
              have BK382 := n0_
              have BK383 := n1_
              have HB := n2_
              have BK391 := n3_
              have GW391 := n4_
              have GE391 := n5_
              have NB382_391 := n6_
              have NB391_382 := n7_
              have NB383_391 := n8_
              have NB391_383 := n9_
              clear n0_ n1_ n2_ n3_ n4_ n5_ n6_ n7_ n8_ n9_
              clear hb hbox hg
              refine hK.out _ _ ⟨(blk_cell BK382.out 0).trans rfl, (blk_cell BK382.out 1).trans rfl, (blk_cell BK382.out 2).trans rfl, (blk_cell BK383.out 0).trans rfl, (blk_cell BK383.out 1).trans rfl, (blk_cell BK383.out 2).trans rfl⟩ (fun hHeld => ?_)
              clear hK K
              refine norm_ (a' := ?_) ?_ ?_
              rotate_left
              ·show Act.put _ (some 6) _ = _
               simp only [Act.put, List.setIfInBounds_toArray, List.set_cons_zero, List.set_cons_succ, i64_w, i32_w]
               rfl
              exact norm_ (by first | (simp only [putAll, Act.put, List.setIfInBounds_toArray, List.set_cons_zero, List.set_cons_succ]; done) | (simp only [putAll, Act.put, List.setIfInBounds_toArray, List.set_cons_zero, List.set_cons_succ]; rfl)) (hJ4 (gb391) _ ⟨hHeld, (bk_ BK382), (bk_ BK383), (bk_ BK391), GW391.out, GE391.out, NB382_391.out, NB391_382.out, NB383_391.out, NB391_383.out, (bl_ HB)⟩)
             ·skip
              refine box_step ?hg (N := 7) ?hd (cs := #[.int .i64 0, .int .i64 0, .int .i64 0]) (t := 28) ?hr ?_; (case hd => rfl); (case hg => rfl); (case hr => first | (go_simp; done) | (go_simp; rfl))
              intro gb392 hg w12 hbox hb
              have n0_ := Aside0.mk (blk_below (g := gb382) (o := .cells #[.int .i64 a0_0, .int .u32 a0_1, .int .u16 a0_2] 25 (0, 0)) (bk_ BK382) hb)
              have n1_ := Aside0.mk (blk_below (g := gb383) (o := .cells #[.int .i64 a1_0, .int .u32 a1_1, .int .u16 a1_2] 25 (0, 0)) (bk_ BK383) hb)
              have n2_ := Aside0.mk (below_step (bl_ HB) hb)
              have n3_ := Aside0.mk (hbox)
              have n4_ := Aside0.mk ((by rw [hg]; exact (below_size (bl_ HB)) : w.heap.size ≤ gb392))
              have n5_ := Aside0.mk ((by rw [hg]; exact (below_size (bl_ HB)) : w.heap.size ≤ gb392))
              have n6_ := Aside0.mk ((by rw [hg]; exact Nat.ne_of_lt (blk_lt (g := gb382) (o := .cells #[.int .i64 a0_0, .int .u32 a0_1, .int .u16 a0_2] 25 (0, 0)) (bk_ BK382)) : gb382 ≠ gb392))
              have n7_ := Aside0.mk ((by rw [hg]; exact Nat.ne_of_gt (blk_lt (g := gb382) (o := .cells #[.int .i64 a0_0, .int .u32 a0_1, .int .u16 a0_2] 25 (0, 0)) (bk_ BK382)) : gb392 ≠ gb382))
              have n8_ := Aside0.mk ((by rw [hg]; exact Nat.ne_of_lt (blk_lt (g := gb383) (o := .cells #[.int .i64 a1_0, .int .u32 a1_1, .int .u16 a1_2] 25 (0, 0)) (bk_ BK383)) : gb383 ≠ gb392))
              have n9_ := Aside0.mk ((by rw [hg]; exact Nat.ne_of_gt (blk_lt (g := gb383) (o := .cells #[.int .i64 a1_0, .int .u32 a1_1, .int .u16 a1_2] 25 (0, 0)) (bk_ BK383)) : gb392 ≠ gb383))
              clear BK382
              clear BK383
              clear HB
              have BK382 := n0_
              have BK383 := n1_
              have HB := n2_
              have BK392 := n3_
              have GW392 := n4_
              have GE392 := n5_
              have NB382_392 := n6_
              have NB392_382 := n7_
              have NB383_392 := n8_
              have NB392_383 := n9_
              clear n0_ n1_ n2_ n3_ n4_ n5_ n6_ n7_ n8_ n9_
              clear hb hbox hg
              refine hK.out _ _ ⟨(blk_cell BK382.out 0).trans rfl, (blk_cell BK382.out 1).trans rfl, (blk_cell BK382.out 2).trans rfl, (blk_cell BK383.out 0).trans rfl, (blk_cell BK383.out 1).trans rfl, (blk_cell BK383.out 2).trans rfl⟩ (fun hHeld => ?_)
              clear hK K
              refine norm_ (a' := ?_) ?_ ?_
              rotate_left
              ·show Act.put _ (some 7) _ = _
               simp only [Act.put, List.setIfInBounds_toArray, List.set_cons_zero, List.set_cons_succ, i64_w, i32_w]
               rfl
              exact norm_ (by first | (simp only [putAll, Act.put, List.setIfInBounds_toArray, List.set_cons_zero, List.set_cons_succ]; done) | (simp only [putAll, Act.put, List.setIfInBounds_toArray, List.set_cons_zero, List.set_cons_succ]; rfl)) (hJ5 (gb392) _ ⟨hHeld, (bk_ BK382), (bk_ BK383), (bk_ BK392), GW392.out, GE392.out, NB382_392.out, NB392_382.out, NB383_392.out, NB392_383.out, (bl_ HB)⟩)
            ·skip
             rintro gb392 w13 ⟨hS_, h0_, h1_, h2_, h3_, h4_, h5_, h6_, h7_, h8_, h9_⟩
             have n0_ : Aside0 (w13.heap[gb382]? = some (.cells #[.int .i64 a0_0, .int .u32 a0_1, .int .u16 a0_2] 25 (0, 0))) := ⟨h0_⟩
             have n1_ : Aside0 (w13.heap[gb383]? = some (.cells #[.int .i64 a1_0, .int .u32 a1_1, .int .u16 a1_2] 25 (0, 0))) := ⟨h1_⟩
             have n2_ : Aside0 (w13.heap[gb392]? = some (.cells #[.int .i64 0, .int .i64 0, .int .i64 0] 28 (0, 0))) := ⟨h2_⟩
             have n3_ : Aside0 (w.heap.size ≤ gb392) := ⟨h3_⟩
             have n4_ : Aside0 (w.heap.size ≤ gb392) := ⟨h4_⟩
             have n5_ : Aside0 (gb382 ≠ gb392) := ⟨h5_⟩
             have n6_ : Aside0 (gb392 ≠ gb382) := ⟨h6_⟩
             have n7_ : Aside0 (gb383 ≠ gb392) := ⟨h7_⟩
             have n8_ : Aside0 (gb392 ≠ gb383) := ⟨h8_⟩
             have n9_ : Aside0 (Below w.heap.size w w13) := ⟨h9_⟩
             clear BK382
             clear BK383
             clear HB
             clear h0_ h1_ h2_ h3_ h4_ h5_ h6_ h7_ h8_ h9_
             have BK382 := n0_
             have BK383 := n1_
             have BK392 := n2_
             have GW392 := n3_
             have GE392 := n4_
             have NB382_392 := n5_
             have NB392_382 := n6_
             have NB383_392 := n7_
             have NB392_383 := n8_
             have HB := n9_
             clear n0_ n1_ n2_ n3_ n4_ n5_ n6_ n7_ n8_ n9_
             have hHeld : w13.cell? ⟨gb382, 0, none⟩ = some (.int .i64 a0_0) ∧ w13.cell? ⟨gb382, 1, none⟩ = some (.int .u32 a0_1) ∧ w13.cell? ⟨gb382, 2, none⟩ = some (.int .u16 a0_2) ∧ w13.cell? ⟨gb383, 0, none⟩ = some (.int .i64 a1_0) ∧ w13.cell? ⟨gb383, 1, none⟩ = some (.int .u32 a1_1) ∧ w13.cell? ⟨gb383, 2, none⟩ = some (.int .u16 a1_2) := hS_
             refine norm_ (a' := ?_) ?_ ?_
             rotate_left
             ·simp only [putAll, Act.put, List.setIfInBounds_toArray, List.set_cons_zero, List.set_cons_succ]
              rfl
             refine two_ (i := 1) (j := 4) (Ni := some 16) (Nj := some 6) #[true, true, true, false, false, true, false, false] #[true, false, true, false, true, true, false, false] rfl rfl rfl rfl (two_of HT_.out (by kernel_rfl)) (by decide) (by decide) (fun K hK => ?_) (fun K hK => ?_)
             ·skip
              refine goes_ Try.func11 (by kernel_rfl) rfl #[.agg #[.int .i64 a0_0, .int .u32 a0_1, .int .u16 a0_2]] (by rfl) rfl rfl am_ ?_
              with_reducible refine (warpwrightref25_Small.calls a0_0 a0_1 a0_2 t385 t386 t387 _ A5.out).mono ?_
              rintro e w14 ⟨rfl, hb⟩
              refine ⟨_, rfl, ?_⟩
              have n0_ := Aside0.mk (blk_below (g := gb382) (o := .cells #[.int .i64 a0_0, .int .u32 a0_1, .int .u16 a0_2] 25 (0, 0)) (bk_ BK382) hb)
              have n1_ := Aside0.mk (blk_below (g := gb383) (o := .cells #[.int .i64 a1_0, .int .u32 a1_1, .int .u16 a1_2] 25 (0, 0)) (bk_ BK383) hb)
              have n2_ := Aside0.mk (blk_below (g := gb392) (o := .cells #[.int .i64 0, .int .i64 0, .int .i64 0] 28 (0, 0)) (bk_ BK392) hb)
              have n3_ := Aside0.mk (below_step (bl_ HB) hb)
              clear BK382
              clear BK383
              clear BK392
              clear HB
              have BK382 := n0_
              have BK383 := n1_
              have BK392 := n2_
              have HB := n3_
              clear n0_ n1_ n2_ n3_
              (try clear hb)
              (try clear hb2)
              (try clear hk)
              (try clear hi)
              refine hK.out _ _ ⟨(blk_cell BK382.out 0).trans rfl, (blk_cell BK382.out 1).trans rfl, (blk_cell BK382.out 2).trans rfl, (blk_cell BK383.out 0).trans rfl, (blk_cell BK383.out 1).trans rfl, (blk_cell BK383.out 2).trans rfl⟩ (fun hHeld => ?_)
              clear hK K
              refine norm_ (a' := ?_) ?_ ?_
              rotate_left
              ·show Act.put _ (some 16) _ = _
               simp only [Act.put, List.setIfInBounds_toArray, List.set_cons_zero, List.set_cons_succ, i64_w, i32_w]
               rfl
              exact norm_ (by first | (simp only [putAll, Act.put, List.setIfInBounds_toArray, List.set_cons_zero, List.set_cons_succ]; done) | (simp only [putAll, Act.put, List.setIfInBounds_toArray, List.set_cons_zero, List.set_cons_succ]; rfl)) (hJ1_5 (gb392) _ ⟨hHeld, (bk_ BK382), (bk_ BK383), (bk_ BK392), GW392.out, GE392.out, NB382_392.out, NB392_382.out, NB383_392.out, NB392_383.out, (bl_ HB)⟩)
             ·skip
              refine box_step ?hg (N := 6) ?hd (cs := #[.int .i64 0, .int .i64 0, .int .i64 0]) (t := 28) ?hr ?_; (case hd => rfl); (case hg => rfl); (case hr => first | (go_simp; done) | (go_simp; rfl))
              intro gb391 hg w14 hbox hb
              have n0_ := Aside0.mk (blk_below (g := gb382) (o := .cells #[.int .i64 a0_0, .int .u32 a0_1, .int .u16 a0_2] 25 (0, 0)) (bk_ BK382) hb)
              have n1_ := Aside0.mk (blk_below (g := gb383) (o := .cells #[.int .i64 a1_0, .int .u32 a1_1, .int .u16 a1_2] 25 (0, 0)) (bk_ BK383) hb)
              have n2_ := Aside0.mk (blk_below (g := gb392) (o := .cells #[.int .i64 0, .int .i64 0, .int .i64 0] 28 (0, 0)) (bk_ BK392) hb)
              have n3_ := Aside0.mk (below_step (bl_ HB) hb)
              have n4_ := Aside0.mk (hbox)
              have n5_ := Aside0.mk ((by rw [hg]; exact (below_size (bl_ HB)) : w.heap.size ≤ gb391))
              have n6_ := Aside0.mk ((by rw [hg]; exact (below_size (bl_ HB)) : w.heap.size ≤ gb391))
              have n7_ := Aside0.mk ((by rw [hg]; exact Nat.ne_of_lt (blk_lt (g := gb382) (o := .cells #[.int .i64 a0_0, .int .u32 a0_1, .int .u16 a0_2] 25 (0, 0)) (bk_ BK382)) : gb382 ≠ gb391))
              have n8_ := Aside0.mk ((by rw [hg]; exact Nat.ne_of_gt (blk_lt (g := gb382) (o := .cells #[.int .i64 a0_0, .int .u32 a0_1, .int .u16 a0_2] 25 (0, 0)) (bk_ BK382)) : gb391 ≠ gb382))
              have n9_ := Aside0.mk ((by rw [hg]; exact Nat.ne_of_lt (blk_lt (g := gb383) (o := .cells #[.int .i64 a1_0, .int .u32 a1_1, .int .u16 a1_2] 25 (0, 0)) (bk_ BK383)) : gb383 ≠ gb391))
              have n10_ := Aside0.mk ((by rw [hg]; exact Nat.ne_of_gt (blk_lt (g := gb383) (o := .cells #[.int .i64 a1_0, .int .u32 a1_1, .int .u16 a1_2] 25 (0, 0)) (bk_ BK383)) : gb391 ≠ gb383))
              have n11_ := Aside0.mk ((by rw [hg]; exact Nat.ne_of_lt (blk_lt (g := gb392) (o := .cells #[.int .i64 0, .int .i64 0, .int .i64 0] 28 (0, 0)) (bk_ BK392)) : gb392 ≠ gb391))
              have n12_ := Aside0.mk ((by rw [hg]; exact Nat.ne_of_gt (blk_lt (g := gb392) (o := .cells #[.int .i64 0, .int .i64 0, .int .i64 0] 28 (0, 0)) (bk_ BK392)) : gb391 ≠ gb392))
              clear BK382
              clear BK383
              clear BK392
              clear HB
              have BK382 := n0_
              have BK383 := n1_
              have BK392 := n2_
              have HB := n3_
              have BK391 := n4_
              have GW391 := n5_
              have GE391 := n6_
              have NB382_391 := n7_
              have NB391_382 := n8_
              have NB383_391 := n9_
              have NB391_383 := n10_
              have NB392_391 := n11_
              have NB391_392 := n12_
              clear n0_ n1_ n2_ n3_ n4_ n5_ n6_ n7_ n8_ n9_ n10_ n11_ n12_
              clear hb hbox hg
              refine hK.out _ _ ⟨(blk_cell BK382.out 0).trans rfl, (blk_cell BK382.out 1).trans rfl, (blk_cell BK382.out 2).trans rfl, (blk_cell BK383.out 0).trans rfl, (blk_cell BK383.out 1).trans rfl, (blk_cell BK383.out 2).trans rfl⟩ (fun hHeld => ?_)
              clear hK K
              refine norm_ (a' := ?_) ?_ ?_
              rotate_left
              ·show Act.put _ (some 6) _ = _
               simp only [Act.put, List.setIfInBounds_toArray, List.set_cons_zero, List.set_cons_succ, i64_w, i32_w]
               rfl
              exact norm_ (by first | (simp only [putAll, Act.put, List.setIfInBounds_toArray, List.set_cons_zero, List.set_cons_succ]; done) | (simp only [putAll, Act.put, List.setIfInBounds_toArray, List.set_cons_zero, List.set_cons_succ]; rfl)) (hJ4_5 (gb391, gb392) _ ⟨hHeld, (bk_ BK382), (bk_ BK383), (bk_ BK391), (bk_ BK392), GW391.out, GE391.out, NB382_391.out, NB391_382.out, NB383_391.out, NB391_383.out, NB392_391.out, NB391_392.out, GW392.out, GE392.out, NB382_392.out, NB392_382.out, NB383_392.out, NB392_383.out, (bl_ HB)⟩)
           ·skip
            rintro gb391 w13 ⟨hS_, h0_, h1_, h2_, h3_, h4_, h5_, h6_, h7_, h8_, h9_⟩
            have n0_ : Aside0 (w13.heap[gb382]? = some (.cells #[.int .i64 a0_0, .int .u32 a0_1, .int .u16 a0_2] 25 (0, 0))) := ⟨h0_⟩
            have n1_ : Aside0 (w13.heap[gb383]? = some (.cells #[.int .i64 a1_0, .int .u32 a1_1, .int .u16 a1_2] 25 (0, 0))) := ⟨h1_⟩
            have n2_ : Aside0 (w13.heap[gb391]? = some (.cells #[.int .i64 0, .int .i64 0, .int .i64 0] 28 (0, 0))) := ⟨h2_⟩
            have n3_ : Aside0 (w.heap.size ≤ gb391) := ⟨h3_⟩
            have n4_ : Aside0 (w.heap.size ≤ gb391) := ⟨h4_⟩
            have n5_ : Aside0 (gb382 ≠ gb391) := ⟨h5_⟩
            have n6_ : Aside0 (gb391 ≠ gb382) := ⟨h6_⟩
            have n7_ : Aside0 (gb383 ≠ gb391) := ⟨h7_⟩
            have n8_ : Aside0 (gb391 ≠ gb383) := ⟨h8_⟩
            have n9_ : Aside0 (Below w.heap.size w w13) := ⟨h9_⟩
            clear BK382
            clear BK383
            clear HB
            clear h0_ h1_ h2_ h3_ h4_ h5_ h6_ h7_ h8_ h9_
            have BK382 := n0_
            have BK383 := n1_
            have BK391 := n2_
            have GW391 := n3_
            have GE391 := n4_
            have NB382_391 := n5_
            have NB391_382 := n6_
            have NB383_391 := n7_
            have NB391_383 := n8_
            have HB := n9_
            clear n0_ n1_ n2_ n3_ n4_ n5_ n6_ n7_ n8_ n9_
            have hHeld : w13.cell? ⟨gb382, 0, none⟩ = some (.int .i64 a0_0) ∧ w13.cell? ⟨gb382, 1, none⟩ = some (.int .u32 a0_1) ∧ w13.cell? ⟨gb382, 2, none⟩ = some (.int .u16 a0_2) ∧ w13.cell? ⟨gb383, 0, none⟩ = some (.int .i64 a1_0) ∧ w13.cell? ⟨gb383, 1, none⟩ = some (.int .u32 a1_1) ∧ w13.cell? ⟨gb383, 2, none⟩ = some (.int .u16 a1_2) := hS_
            refine norm_ (a' := ?_) ?_ ?_
            rotate_left
            ·simp only [putAll, Act.put, List.setIfInBounds_toArray, List.set_cons_zero, List.set_cons_succ]
             rfl
            refine two_ (i := 1) (j := 5) (Ni := some 16) (Nj := some 7) #[true, true, true, false, true, false, false, false] #[true, false, true, false, true, true, false, false] rfl rfl rfl rfl (two_of HT_.out (by kernel_rfl)) (by decide) (by decide) (fun K hK => ?_) (fun K hK => ?_)
            ·skip
             refine goes_ Try.func11 (by kernel_rfl) rfl #[.agg #[.int .i64 a0_0, .int .u32 a0_1, .int .u16 a0_2]] (by rfl) rfl rfl am_ ?_
             with_reducible refine (warpwrightref25_Small.calls a0_0 a0_1 a0_2 t385 t386 t387 _ A5.out).mono ?_
             rintro e w14 ⟨rfl, hb⟩
             refine ⟨_, rfl, ?_⟩
             have n0_ := Aside0.mk (blk_below (g := gb382) (o := .cells #[.int .i64 a0_0, .int .u32 a0_1, .int .u16 a0_2] 25 (0, 0)) (bk_ BK382) hb)
             have n1_ := Aside0.mk (blk_below (g := gb383) (o := .cells #[.int .i64 a1_0, .int .u32 a1_1, .int .u16 a1_2] 25 (0, 0)) (bk_ BK383) hb)
             have n2_ := Aside0.mk (blk_below (g := gb391) (o := .cells #[.int .i64 0, .int .i64 0, .int .i64 0] 28 (0, 0)) (bk_ BK391) hb)
             have n3_ := Aside0.mk (below_step (bl_ HB) hb)
             clear BK382
             clear BK383
             clear BK391
             clear HB
             have BK382 := n0_
             have BK383 := n1_
             have BK391 := n2_
             have HB := n3_
             clear n0_ n1_ n2_ n3_
             (try clear hb)
             (try clear hb2)
             (try clear hk)
             (try clear hi)
             refine hK.out _ _ ⟨(blk_cell BK382.out 0).trans rfl, (blk_cell BK382.out 1).trans rfl, (blk_cell BK382.out 2).trans rfl, (blk_cell BK383.out 0).trans rfl, (blk_cell BK383.out 1).trans rfl, (blk_cell BK383.out 2).trans rfl⟩ (fun hHeld => ?_)
             clear hK K
             refine norm_ (a' := ?_) ?_ ?_
             rotate_left
             ·show Act.put _ (some 16) _ = _
              simp only [Act.put, List.setIfInBounds_toArray, List.set_cons_zero, List.set_cons_succ, i64_w, i32_w]
              rfl
             exact norm_ (by first | (simp only [putAll, Act.put, List.setIfInBounds_toArray, List.set_cons_zero, List.set_cons_succ]; done) | (simp only [putAll, Act.put, List.setIfInBounds_toArray, List.set_cons_zero, List.set_cons_succ]; rfl)) (hJ1_4 (gb391) _ ⟨hHeld, (bk_ BK382), (bk_ BK383), (bk_ BK391), GW391.out, GE391.out, NB382_391.out, NB391_382.out, NB383_391.out, NB391_383.out, (bl_ HB)⟩)
            ·skip
             refine box_step ?hg (N := 7) ?hd (cs := #[.int .i64 0, .int .i64 0, .int .i64 0]) (t := 28) ?hr ?_; (case hd => rfl); (case hg => rfl); (case hr => first | (go_simp; done) | (go_simp; rfl))
             intro gb392 hg w14 hbox hb
             have n0_ := Aside0.mk (blk_below (g := gb382) (o := .cells #[.int .i64 a0_0, .int .u32 a0_1, .int .u16 a0_2] 25 (0, 0)) (bk_ BK382) hb)
             have n1_ := Aside0.mk (blk_below (g := gb383) (o := .cells #[.int .i64 a1_0, .int .u32 a1_1, .int .u16 a1_2] 25 (0, 0)) (bk_ BK383) hb)
             have n2_ := Aside0.mk (blk_below (g := gb391) (o := .cells #[.int .i64 0, .int .i64 0, .int .i64 0] 28 (0, 0)) (bk_ BK391) hb)
             have n3_ := Aside0.mk (below_step (bl_ HB) hb)
             have n4_ := Aside0.mk (hbox)
             have n5_ := Aside0.mk ((by rw [hg]; exact (below_size (bl_ HB)) : w.heap.size ≤ gb392))
             have n6_ := Aside0.mk ((by rw [hg]; exact (below_size (bl_ HB)) : w.heap.size ≤ gb392))
             have n7_ := Aside0.mk ((by rw [hg]; exact Nat.ne_of_lt (blk_lt (g := gb382) (o := .cells #[.int .i64 a0_0, .int .u32 a0_1, .int .u16 a0_2] 25 (0, 0)) (bk_ BK382)) : gb382 ≠ gb392))
             have n8_ := Aside0.mk ((by rw [hg]; exact Nat.ne_of_gt (blk_lt (g := gb382) (o := .cells #[.int .i64 a0_0, .int .u32 a0_1, .int .u16 a0_2] 25 (0, 0)) (bk_ BK382)) : gb392 ≠ gb382))
             have n9_ := Aside0.mk ((by rw [hg]; exact Nat.ne_of_lt (blk_lt (g := gb383) (o := .cells #[.int .i64 a1_0, .int .u32 a1_1, .int .u16 a1_2] 25 (0, 0)) (bk_ BK383)) : gb383 ≠ gb392))
             have n10_ := Aside0.mk ((by rw [hg]; exact Nat.ne_of_gt (blk_lt (g := gb383) (o := .cells #[.int .i64 a1_0, .int .u32 a1_1, .int .u16 a1_2] 25 (0, 0)) (bk_ BK383)) : gb392 ≠ gb383))
             have n11_ := Aside0.mk ((by rw [hg]; exact Nat.ne_of_lt (blk_lt (g := gb391) (o := .cells #[.int .i64 0, .int .i64 0, .int .i64 0] 28 (0, 0)) (bk_ BK391)) : gb391 ≠ gb392))
             have n12_ := Aside0.mk ((by rw [hg]; exact Nat.ne_of_gt (blk_lt (g := gb391) (o := .cells #[.int .i64 0, .int .i64 0, .int .i64 0] 28 (0, 0)) (bk_ BK391)) : gb392 ≠ gb391))
             clear BK382
             clear BK383
             clear BK391
             clear HB
             have BK382 := n0_
             have BK383 := n1_
             have BK391 := n2_
             have HB := n3_
             have BK392 := n4_
             have GW392 := n5_
             have GE392 := n6_
             have NB382_392 := n7_
             have NB392_382 := n8_
             have NB383_392 := n9_
             have NB392_383 := n10_
             have NB391_392 := n11_
             have NB392_391 := n12_
             clear n0_ n1_ n2_ n3_ n4_ n5_ n6_ n7_ n8_ n9_ n10_ n11_ n12_
             clear hb hbox hg
             refine hK.out _ _ ⟨(blk_cell BK382.out 0).trans rfl, (blk_cell BK382.out 1).trans rfl, (blk_cell BK382.out 2).trans rfl, (blk_cell BK383.out 0).trans rfl, (blk_cell BK383.out 1).trans rfl, (blk_cell BK383.out 2).trans rfl⟩ (fun hHeld => ?_)
             clear hK K
             refine norm_ (a' := ?_) ?_ ?_
             rotate_left
             ·show Act.put _ (some 7) _ = _
              simp only [Act.put, List.setIfInBounds_toArray, List.set_cons_zero, List.set_cons_succ, i64_w, i32_w]
              rfl
             exact norm_ (by first | (simp only [putAll, Act.put, List.setIfInBounds_toArray, List.set_cons_zero, List.set_cons_succ]; done) | (simp only [putAll, Act.put, List.setIfInBounds_toArray, List.set_cons_zero, List.set_cons_succ]; rfl)) (hJ4_5 (gb391, gb392) _ ⟨hHeld, (bk_ BK382), (bk_ BK383), (bk_ BK391), (bk_ BK392), GW391.out, GE391.out, NB382_391.out, NB391_382.out, NB383_391.out, NB391_383.out, NB392_391.out, NB391_392.out, GW392.out, GE392.out, NB382_392.out, NB392_382.out, NB383_392.out, NB392_383.out, (bl_ HB)⟩)
          ·skip
           rintro _ w13 ⟨hS_, h0_, h1_, h2_⟩
           have n0_ : Aside0 (w13.heap[gb382]? = some (.cells #[.int .i64 a0_0, .int .u32 a0_1, .int .u16 a0_2] 25 (0, 0))) := ⟨h0_⟩
           have n1_ : Aside0 (w13.heap[gb383]? = some (.cells #[.int .i64 a1_0, .int .u32 a1_1, .int .u16 a1_2] 25 (0, 0))) := ⟨h1_⟩
           have n2_ : Aside0 (Below w.heap.size w w13) := ⟨h2_⟩
           clear BK382
           clear BK383
           clear HB
           clear h0_ h1_ h2_
           have BK382 := n0_
           have BK383 := n1_
           have HB := n2_
           clear n0_ n1_ n2_
           have hHeld : w13.cell? ⟨gb382, 0, none⟩ = some (.int .i64 a0_0) ∧ w13.cell? ⟨gb382, 1, none⟩ = some (.int .u32 a0_1) ∧ w13.cell? ⟨gb382, 2, none⟩ = some (.int .u16 a0_2) ∧ w13.cell? ⟨gb383, 0, none⟩ = some (.int .i64 a1_0) ∧ w13.cell? ⟨gb383, 1, none⟩ = some (.int .u32 a1_1) ∧ w13.cell? ⟨gb383, 2, none⟩ = some (.int .u16 a1_2) := hS_
           refine norm_ (a' := ?_) ?_ ?_
           rotate_left
           ·simp only [putAll, Act.put, List.setIfInBounds_toArray, List.set_cons_zero, List.set_cons_succ]
            rfl
           refine three_ (i := 3) (j := 4) (k := 5) (Ni := some 18) (Nj := some 6) (Nk := some 7) #[true, true, true, true, false, false, false, false] #[true, true, true, false, true, false, false, false] #[true, true, true, false, false, true, false, false] rfl rfl rfl rfl rfl rfl (three_of HT_.out (by kernel_rfl)) (by decide) (by decide) (by decide) (fun K hK => ?_) (fun K hK => ?_) (fun K hK => ?_)
           ·skip
            refine goes_ Try.func11 (by kernel_rfl) rfl #[.agg #[.int .i64 a1_0, .int .u32 a1_1, .int .u16 a1_2]] (by rfl) rfl rfl am_ ?_
            with_reducible refine (warpwrightref25_Small.calls a1_0 a1_1 a1_2 t388 t389 t390 _ A6.out).mono ?_
            rintro e w14 ⟨rfl, hb⟩
            refine ⟨_, rfl, ?_⟩
            have n0_ := Aside0.mk (blk_below (g := gb382) (o := .cells #[.int .i64 a0_0, .int .u32 a0_1, .int .u16 a0_2] 25 (0, 0)) (bk_ BK382) hb)
            have n1_ := Aside0.mk (blk_below (g := gb383) (o := .cells #[.int .i64 a1_0, .int .u32 a1_1, .int .u16 a1_2] 25 (0, 0)) (bk_ BK383) hb)
            have n2_ := Aside0.mk (below_step (bl_ HB) hb)
            clear BK382
            clear BK383
            clear HB
            have BK382 := n0_
            have BK383 := n1_
            have HB := n2_
            clear n0_ n1_ n2_
            (try clear hb)
            (try clear hb2)
            (try clear hk)
            (try clear hi)
            refine hK.out _ _ ⟨(blk_cell BK382.out 0).trans rfl, (blk_cell BK382.out 1).trans rfl, (blk_cell BK382.out 2).trans rfl, (blk_cell BK383.out 0).trans rfl, (blk_cell BK383.out 1).trans rfl, (blk_cell BK383.out 2).trans rfl⟩ (fun hHeld => ?_)
            clear hK K
            refine norm_ (a' := ?_) ?_ ?_
            rotate_left
            ·show Act.put _ (some 18) _ = _
             simp only [Act.put, List.setIfInBounds_toArray, List.set_cons_zero, List.set_cons_succ, i64_w, i32_w]
             rfl
            exact norm_ (by first | (simp only [putAll, Act.put, List.setIfInBounds_toArray, List.set_cons_zero, List.set_cons_succ]; done) | (simp only [putAll, Act.put, List.setIfInBounds_toArray, List.set_cons_zero, List.set_cons_succ]; rfl)) (hJ1_3 () _ ⟨hHeld, (bk_ BK382), (bk_ BK383), (bl_ HB)⟩)
           ·skip
            refine box_step ?hg (N := 6) ?hd (cs := #[.int .i64 0, .int .i64 0, .int .i64 0]) (t := 28) ?hr ?_; (case hd => rfl); (case hg => rfl); (case hr => first | (go_simp; done) | (go_simp; rfl))
            intro gb391 hg w14 hbox hb
            have n0_ := Aside0.mk (blk_below (g := gb382) (o := .cells #[.int .i64 a0_0, .int .u32 a0_1, .int .u16 a0_2] 25 (0, 0)) (bk_ BK382) hb)
            have n1_ := Aside0.mk (blk_below (g := gb383) (o := .cells #[.int .i64 a1_0, .int .u32 a1_1, .int .u16 a1_2] 25 (0, 0)) (bk_ BK383) hb)
            have n2_ := Aside0.mk (below_step (bl_ HB) hb)
            have n3_ := Aside0.mk (hbox)
            have n4_ := Aside0.mk ((by rw [hg]; exact (below_size (bl_ HB)) : w.heap.size ≤ gb391))
            have n5_ := Aside0.mk ((by rw [hg]; exact (below_size (bl_ HB)) : w.heap.size ≤ gb391))
            have n6_ := Aside0.mk ((by rw [hg]; exact Nat.ne_of_lt (blk_lt (g := gb382) (o := .cells #[.int .i64 a0_0, .int .u32 a0_1, .int .u16 a0_2] 25 (0, 0)) (bk_ BK382)) : gb382 ≠ gb391))
            have n7_ := Aside0.mk ((by rw [hg]; exact Nat.ne_of_gt (blk_lt (g := gb382) (o := .cells #[.int .i64 a0_0, .int .u32 a0_1, .int .u16 a0_2] 25 (0, 0)) (bk_ BK382)) : gb391 ≠ gb382))
            have n8_ := Aside0.mk ((by rw [hg]; exact Nat.ne_of_lt (blk_lt (g := gb383) (o := .cells #[.int .i64 a1_0, .int .u32 a1_1, .int .u16 a1_2] 25 (0, 0)) (bk_ BK383)) : gb383 ≠ gb391))
            have n9_ := Aside0.mk ((by rw [hg]; exact Nat.ne_of_gt (blk_lt (g := gb383) (o := .cells #[.int .i64 a1_0, .int .u32 a1_1, .int .u16 a1_2] 25 (0, 0)) (bk_ BK383)) : gb391 ≠ gb383))
            clear BK382
            clear BK383
            clear HB
            have BK382 := n0_
            have BK383 := n1_
            have HB := n2_
            have BK391 := n3_
            have GW391 := n4_
            have GE391 := n5_
            have NB382_391 := n6_
            have NB391_382 := n7_
            have NB383_391 := n8_
            have NB391_383 := n9_
            clear n0_ n1_ n2_ n3_ n4_ n5_ n6_ n7_ n8_ n9_
            clear hb hbox hg
            refine hK.out _ _ ⟨(blk_cell BK382.out 0).trans rfl, (blk_cell BK382.out 1).trans rfl, (blk_cell BK382.out 2).trans rfl, (blk_cell BK383.out 0).trans rfl, (blk_cell BK383.out 1).trans rfl, (blk_cell BK383.out 2).trans rfl⟩ (fun hHeld => ?_)
            clear hK K
            refine norm_ (a' := ?_) ?_ ?_
            rotate_left
            ·show Act.put _ (some 6) _ = _
             simp only [Act.put, List.setIfInBounds_toArray, List.set_cons_zero, List.set_cons_succ, i64_w, i32_w]
             rfl
            exact norm_ (by first | (simp only [putAll, Act.put, List.setIfInBounds_toArray, List.set_cons_zero, List.set_cons_succ]; done) | (simp only [putAll, Act.put, List.setIfInBounds_toArray, List.set_cons_zero, List.set_cons_succ]; rfl)) (hJ1_4 (gb391) _ ⟨hHeld, (bk_ BK382), (bk_ BK383), (bk_ BK391), GW391.out, GE391.out, NB382_391.out, NB391_382.out, NB383_391.out, NB391_383.out, (bl_ HB)⟩)
           ·skip
            refine box_step ?hg (N := 7) ?hd (cs := #[.int .i64 0, .int .i64 0, .int .i64 0]) (t := 28) ?hr ?_; (case hd => rfl); (case hg => rfl); (case hr => first | (go_simp; done) | (go_simp; rfl))
            intro gb392 hg w14 hbox hb
            have n0_ := Aside0.mk (blk_below (g := gb382) (o := .cells #[.int .i64 a0_0, .int .u32 a0_1, .int .u16 a0_2] 25 (0, 0)) (bk_ BK382) hb)
            have n1_ := Aside0.mk (blk_below (g := gb383) (o := .cells #[.int .i64 a1_0, .int .u32 a1_1, .int .u16 a1_2] 25 (0, 0)) (bk_ BK383) hb)
            have n2_ := Aside0.mk (below_step (bl_ HB) hb)
            have n3_ := Aside0.mk (hbox)
            have n4_ := Aside0.mk ((by rw [hg]; exact (below_size (bl_ HB)) : w.heap.size ≤ gb392))
            have n5_ := Aside0.mk ((by rw [hg]; exact (below_size (bl_ HB)) : w.heap.size ≤ gb392))
            have n6_ := Aside0.mk ((by rw [hg]; exact Nat.ne_of_lt (blk_lt (g := gb382) (o := .cells #[.int .i64 a0_0, .int .u32 a0_1, .int .u16 a0_2] 25 (0, 0)) (bk_ BK382)) : gb382 ≠ gb392))
            have n7_ := Aside0.mk ((by rw [hg]; exact Nat.ne_of_gt (blk_lt (g := gb382) (o := .cells #[.int .i64 a0_0, .int .u32 a0_1, .int .u16 a0_2] 25 (0, 0)) (bk_ BK382)) : gb392 ≠ gb382))
            have n8_ := Aside0.mk ((by rw [hg]; exact Nat.ne_of_lt (blk_lt (g := gb383) (o := .cells #[.int .i64 a1_0, .int .u32 a1_1, .int .u16 a1_2] 25 (0, 0)) (bk_ BK383)) : gb383 ≠ gb392))
            have n9_ := Aside0.mk ((by rw [hg]; exact Nat.ne_of_gt (blk_lt (g := gb383) (o := .cells #[.int .i64 a1_0, .int .u32 a1_1, .int .u16 a1_2] 25 (0, 0)) (bk_ BK383)) : gb392 ≠ gb383))
            clear BK382
            clear BK383
            clear HB
            have BK382 := n0_
            have BK383 := n1_
            have HB := n2_
            have BK392 := n3_
            have GW392 := n4_
            have GE392 := n5_
            have NB382_392 := n6_
            have NB392_382 := n7_
            have NB383_392 := n8_
            have NB392_383 := n9_
            clear n0_ n1_ n2_ n3_ n4_ n5_ n6_ n7_ n8_ n9_
            clear hb hbox hg
            refine hK.out _ _ ⟨(blk_cell BK382.out 0).trans rfl, (blk_cell BK382.out 1).trans rfl, (blk_cell BK382.out 2).trans rfl, (blk_cell BK383.out 0).trans rfl, (blk_cell BK383.out 1).trans rfl, (blk_cell BK383.out 2).trans rfl⟩ (fun hHeld => ?_)
            clear hK K
            refine norm_ (a' := ?_) ?_ ?_
            rotate_left
            ·show Act.put _ (some 7) _ = _
             simp only [Act.put, List.setIfInBounds_toArray, List.set_cons_zero, List.set_cons_succ, i64_w, i32_w]
             rfl
            exact norm_ (by first | (simp only [putAll, Act.put, List.setIfInBounds_toArray, List.set_cons_zero, List.set_cons_succ]; done) | (simp only [putAll, Act.put, List.setIfInBounds_toArray, List.set_cons_zero, List.set_cons_succ]; rfl)) (hJ1_5 (gb392) _ ⟨hHeld, (bk_ BK382), (bk_ BK383), (bk_ BK392), GW392.out, GE392.out, NB382_392.out, NB392_382.out, NB383_392.out, NB392_383.out, (bl_ HB)⟩)
         ·skip
          rintro ⟨gb391, gb392⟩ w14 ⟨hS_, h0_, h1_, h2_, h3_, h4_, h5_, h6_, h7_, h8_, h9_, h10_, h11_, h12_, h13_, h14_, h15_, h16_, h17_, h18_⟩
          have n0_ : Aside0 (w14.heap[gb382]? = some (.cells #[.int .i64 a0_0, .int .u32 a0_1, .int .u16 a0_2] 25 (0, 0))) := ⟨h0_⟩
          have n1_ : Aside0 (w14.heap[gb383]? = some (.cells #[.int .i64 a1_0, .int .u32 a1_1, .int .u16 a1_2] 25 (0, 0))) := ⟨h1_⟩
          have n2_ : Aside0 (w14.heap[gb391]? = some (.cells #[.int .i64 0, .int .i64 0, .int .i64 0] 28 (0, 0))) := ⟨h2_⟩
          have n3_ : Aside0 (w14.heap[gb392]? = some (.cells #[.int .i64 0, .int .i64 0, .int .i64 0] 28 (0, 0))) := ⟨h3_⟩
          have n4_ : Aside0 (w.heap.size ≤ gb391) := ⟨h4_⟩
          have n5_ : Aside0 (w.heap.size ≤ gb391) := ⟨h5_⟩
          have n6_ : Aside0 (gb382 ≠ gb391) := ⟨h6_⟩
          have n7_ : Aside0 (gb391 ≠ gb382) := ⟨h7_⟩
          have n8_ : Aside0 (gb383 ≠ gb391) := ⟨h8_⟩
          have n9_ : Aside0 (gb391 ≠ gb383) := ⟨h9_⟩
          have n10_ : Aside0 (gb392 ≠ gb391) := ⟨h10_⟩
          have n11_ : Aside0 (gb391 ≠ gb392) := ⟨h11_⟩
          have n12_ : Aside0 (w.heap.size ≤ gb392) := ⟨h12_⟩
          have n13_ : Aside0 (w.heap.size ≤ gb392) := ⟨h13_⟩
          have n14_ : Aside0 (gb382 ≠ gb392) := ⟨h14_⟩
          have n15_ : Aside0 (gb392 ≠ gb382) := ⟨h15_⟩
          have n16_ : Aside0 (gb383 ≠ gb392) := ⟨h16_⟩
          have n17_ : Aside0 (gb392 ≠ gb383) := ⟨h17_⟩
          have n18_ : Aside0 (Below w.heap.size w w14) := ⟨h18_⟩
          clear BK382
          clear BK383
          clear HB
          clear h0_ h1_ h2_ h3_ h4_ h5_ h6_ h7_ h8_ h9_ h10_ h11_ h12_ h13_ h14_ h15_ h16_ h17_ h18_
          have BK382 := n0_
          have BK383 := n1_
          have BK391 := n2_
          have BK392 := n3_
          have GW391 := n4_
          have GE391 := n5_
          have NB382_391 := n6_
          have NB391_382 := n7_
          have NB383_391 := n8_
          have NB391_383 := n9_
          have NB392_391 := n10_
          have NB391_392 := n11_
          have GW392 := n12_
          have GE392 := n13_
          have NB382_392 := n14_
          have NB392_382 := n15_
          have NB383_392 := n16_
          have NB392_383 := n17_
          have HB := n18_
          clear n0_ n1_ n2_ n3_ n4_ n5_ n6_ n7_ n8_ n9_ n10_ n11_ n12_ n13_ n14_ n15_ n16_ n17_ n18_
          have hHeld : w14.cell? ⟨gb382, 0, none⟩ = some (.int .i64 a0_0) ∧ w14.cell? ⟨gb382, 1, none⟩ = some (.int .u32 a0_1) ∧ w14.cell? ⟨gb382, 2, none⟩ = some (.int .u16 a0_2) ∧ w14.cell? ⟨gb383, 0, none⟩ = some (.int .i64 a1_0) ∧ w14.cell? ⟨gb383, 1, none⟩ = some (.int .u32 a1_1) ∧ w14.cell? ⟨gb383, 2, none⟩ = some (.int .u16 a1_2) := hS_
          refine norm_ (a' := ?_) ?_ ?_
          rotate_left
          ·simp only [putAll, Act.put, List.setIfInBounds_toArray, List.set_cons_zero, List.set_cons_succ]
           rfl
          refine one_ (i := 1) (N := some 16) #[true, true, true, false, true, true, false, false] rfl rfl (one_of HT_.out (by kernel_rfl)) (by decide) (fun K hK => ?_)
          refine goes_ Try.func11 (by kernel_rfl) rfl #[.agg #[.int .i64 a0_0, .int .u32 a0_1, .int .u16 a0_2]] (by rfl) rfl rfl am_ ?_
          with_reducible refine (warpwrightref25_Small.calls a0_0 a0_1 a0_2 t385 t386 t387 _ A5.out).mono ?_
          rintro e w15 ⟨rfl, hb⟩
          refine ⟨_, rfl, ?_⟩
          have n0_ := Aside0.mk (blk_below (g := gb382) (o := .cells #[.int .i64 a0_0, .int .u32 a0_1, .int .u16 a0_2] 25 (0, 0)) (bk_ BK382) hb)
          have n1_ := Aside0.mk (blk_below (g := gb383) (o := .cells #[.int .i64 a1_0, .int .u32 a1_1, .int .u16 a1_2] 25 (0, 0)) (bk_ BK383) hb)
          have n2_ := Aside0.mk (blk_below (g := gb391) (o := .cells #[.int .i64 0, .int .i64 0, .int .i64 0] 28 (0, 0)) (bk_ BK391) hb)
          have n3_ := Aside0.mk (blk_below (g := gb392) (o := .cells #[.int .i64 0, .int .i64 0, .int .i64 0] 28 (0, 0)) (bk_ BK392) hb)
          have n4_ := Aside0.mk (below_step (bl_ HB) hb)
          clear BK382
          clear BK383
          clear BK391
          clear BK392
          clear HB
          have BK382 := n0_
          have BK383 := n1_
          have BK391 := n2_
          have BK392 := n3_
          have HB := n4_
          clear n0_ n1_ n2_ n3_ n4_
          (try clear hb)
          (try clear hb2)
          (try clear hk)
          (try clear hi)
          refine hK.out _ _ ⟨(blk_cell BK382.out 0).trans rfl, (blk_cell BK382.out 1).trans rfl, (blk_cell BK382.out 2).trans rfl, (blk_cell BK383.out 0).trans rfl, (blk_cell BK383.out 1).trans rfl, (blk_cell BK383.out 2).trans rfl⟩ (fun hHeld => ?_)
          clear hK K
          refine norm_ (a' := ?_) ?_ ?_
          rotate_left
          ·show Act.put _ (some 16) _ = _
           simp only [Act.put, List.setIfInBounds_toArray, List.set_cons_zero, List.set_cons_succ, i64_w, i32_w]
           rfl
          exact norm_ (by first | (simp only [putAll, Act.put, List.setIfInBounds_toArray, List.set_cons_zero, List.set_cons_succ]; done) | (simp only [putAll, Act.put, List.setIfInBounds_toArray, List.set_cons_zero, List.set_cons_succ]; rfl)) (hJ1_4_5 (gb391, gb392) _ ⟨hHeld, (bk_ BK382), (bk_ BK383), (bk_ BK391), (bk_ BK392), GW391.out, GE391.out, NB382_391.out, NB391_382.out, NB383_391.out, NB391_383.out, NB392_391.out, NB391_392.out, GW392.out, GE392.out, NB382_392.out, NB392_382.out, NB383_392.out, NB392_383.out, (bl_ HB)⟩)
        ·skip
         rintro gb392 w14 ⟨hS_, h0_, h1_, h2_, h3_, h4_, h5_, h6_, h7_, h8_, h9_⟩
         have n0_ : Aside0 (w14.heap[gb382]? = some (.cells #[.int .i64 a0_0, .int .u32 a0_1, .int .u16 a0_2] 25 (0, 0))) := ⟨h0_⟩
         have n1_ : Aside0 (w14.heap[gb383]? = some (.cells #[.int .i64 a1_0, .int .u32 a1_1, .int .u16 a1_2] 25 (0, 0))) := ⟨h1_⟩
         have n2_ : Aside0 (w14.heap[gb392]? = some (.cells #[.int .i64 0, .int .i64 0, .int .i64 0] 28 (0, 0))) := ⟨h2_⟩
         have n3_ : Aside0 (w.heap.size ≤ gb392) := ⟨h3_⟩
         have n4_ : Aside0 (w.heap.size ≤ gb392) := ⟨h4_⟩
         have n5_ : Aside0 (gb382 ≠ gb392) := ⟨h5_⟩
         have n6_ : Aside0 (gb392 ≠ gb382) := ⟨h6_⟩
         have n7_ : Aside0 (gb383 ≠ gb392) := ⟨h7_⟩
         have n8_ : Aside0 (gb392 ≠ gb383) := ⟨h8_⟩
         have n9_ : Aside0 (Below w.heap.size w w14) := ⟨h9_⟩
         clear BK382
         clear BK383
         clear HB
         clear h0_ h1_ h2_ h3_ h4_ h5_ h6_ h7_ h8_ h9_
         have BK382 := n0_
         have BK383 := n1_
         have BK392 := n2_
         have GW392 := n3_
         have GE392 := n4_
         have NB382_392 := n5_
         have NB392_382 := n6_
         have NB383_392 := n7_
         have NB392_383 := n8_
         have HB := n9_
         clear n0_ n1_ n2_ n3_ n4_ n5_ n6_ n7_ n8_ n9_
         have hHeld : w14.cell? ⟨gb382, 0, none⟩ = some (.int .i64 a0_0) ∧ w14.cell? ⟨gb382, 1, none⟩ = some (.int .u32 a0_1) ∧ w14.cell? ⟨gb382, 2, none⟩ = some (.int .u16 a0_2) ∧ w14.cell? ⟨gb383, 0, none⟩ = some (.int .i64 a1_0) ∧ w14.cell? ⟨gb383, 1, none⟩ = some (.int .u32 a1_1) ∧ w14.cell? ⟨gb383, 2, none⟩ = some (.int .u16 a1_2) := hS_
         refine norm_ (a' := ?_) ?_ ?_
         rotate_left
         ·simp only [putAll, Act.put, List.setIfInBounds_toArray, List.set_cons_zero, List.set_cons_succ]
          rfl
         refine two_ (i := 3) (j := 4) (Ni := some 18) (Nj := some 6) #[true, true, true, true, false, true, false, false] #[true, true, true, false, true, true, false, false] rfl rfl rfl rfl (two_of HT_.out (by kernel_rfl)) (by decide) (by decide) (fun K hK => ?_) (fun K hK => ?_)
         ·skip
          refine goes_ Try.func11 (by kernel_rfl) rfl #[.agg #[.int .i64 a1_0, .int .u32 a1_1, .int .u16 a1_2]] (by rfl) rfl rfl am_ ?_
          with_reducible refine (warpwrightref25_Small.calls a1_0 a1_1 a1_2 t388 t389 t390 _ A6.out).mono ?_
          rintro e w15 ⟨rfl, hb⟩
          refine ⟨_, rfl, ?_⟩
          have n0_ := Aside0.mk (blk_below (g := gb382) (o := .cells #[.int .i64 a0_0, .int .u32 a0_1, .int .u16 a0_2] 25 (0, 0)) (bk_ BK382) hb)
          have n1_ := Aside0.mk (blk_below (g := gb383) (o := .cells #[.int .i64 a1_0, .int .u32 a1_1, .int .u16 a1_2] 25 (0, 0)) (bk_ BK383) hb)
          have n2_ := Aside0.mk (blk_below (g := gb392) (o := .cells #[.int .i64 0, .int .i64 0, .int .i64 0] 28 (0, 0)) (bk_ BK392) hb)
          have n3_ := Aside0.mk (below_step (bl_ HB) hb)
          clear BK382
          clear BK383
          clear BK392
          clear HB
          have BK382 := n0_
          have BK383 := n1_
          have BK392 := n2_
          have HB := n3_
          clear n0_ n1_ n2_ n3_
          (try clear hb)
          (try clear hb2)
          (try clear hk)
          (try clear hi)
          refine hK.out _ _ ⟨(blk_cell BK382.out 0).trans rfl, (blk_cell BK382.out 1).trans rfl, (blk_cell BK382.out 2).trans rfl, (blk_cell BK383.out 0).trans rfl, (blk_cell BK383.out 1).trans rfl, (blk_cell BK383.out 2).trans rfl⟩ (fun hHeld => ?_)
          clear hK K
          refine norm_ (a' := ?_) ?_ ?_
          rotate_left
          ·show Act.put _ (some 18) _ = _
           simp only [Act.put, List.setIfInBounds_toArray, List.set_cons_zero, List.set_cons_succ, i64_w, i32_w]
           rfl
          exact norm_ (by first | (simp only [putAll, Act.put, List.setIfInBounds_toArray, List.set_cons_zero, List.set_cons_succ]; done) | (simp only [putAll, Act.put, List.setIfInBounds_toArray, List.set_cons_zero, List.set_cons_succ]; rfl)) (hJ1_3_5 (gb392) _ ⟨hHeld, (bk_ BK382), (bk_ BK383), (bk_ BK392), GW392.out, GE392.out, NB382_392.out, NB392_382.out, NB383_392.out, NB392_383.out, (bl_ HB)⟩)
         ·skip
          refine box_step ?hg (N := 6) ?hd (cs := #[.int .i64 0, .int .i64 0, .int .i64 0]) (t := 28) ?hr ?_; (case hd => rfl); (case hg => rfl); (case hr => first | (go_simp; done) | (go_simp; rfl))
          intro gb391 hg w15 hbox hb
          have n0_ := Aside0.mk (blk_below (g := gb382) (o := .cells #[.int .i64 a0_0, .int .u32 a0_1, .int .u16 a0_2] 25 (0, 0)) (bk_ BK382) hb)
          have n1_ := Aside0.mk (blk_below (g := gb383) (o := .cells #[.int .i64 a1_0, .int .u32 a1_1, .int .u16 a1_2] 25 (0, 0)) (bk_ BK383) hb)
          have n2_ := Aside0.mk (blk_below (g := gb392) (o := .cells #[.int .i64 0, .int .i64 0, .int .i64 0] 28 (0, 0)) (bk_ BK392) hb)
          have n3_ := Aside0.mk (below_step (bl_ HB) hb)
          have n4_ := Aside0.mk (hbox)
          have n5_ := Aside0.mk ((by rw [hg]; exact (below_size (bl_ HB)) : w.heap.size ≤ gb391))
          have n6_ := Aside0.mk ((by rw [hg]; exact (below_size (bl_ HB)) : w.heap.size ≤ gb391))
          have n7_ := Aside0.mk ((by rw [hg]; exact Nat.ne_of_lt (blk_lt (g := gb382) (o := .cells #[.int .i64 a0_0, .int .u32 a0_1, .int .u16 a0_2] 25 (0, 0)) (bk_ BK382)) : gb382 ≠ gb391))
          have n8_ := Aside0.mk ((by rw [hg]; exact Nat.ne_of_gt (blk_lt (g := gb382) (o := .cells #[.int .i64 a0_0, .int .u32 a0_1, .int .u16 a0_2] 25 (0, 0)) (bk_ BK382)) : gb391 ≠ gb382))
          have n9_ := Aside0.mk ((by rw [hg]; exact Nat.ne_of_lt (blk_lt (g := gb383) (o := .cells #[.int .i64 a1_0, .int .u32 a1_1, .int .u16 a1_2] 25 (0, 0)) (bk_ BK383)) : gb383 ≠ gb391))
          have n10_ := Aside0.mk ((by rw [hg]; exact Nat.ne_of_gt (blk_lt (g := gb383) (o := .cells #[.int .i64 a1_0, .int .u32 a1_1, .int .u16 a1_2] 25 (0, 0)) (bk_ BK383)) : gb391 ≠ gb383))
          have n11_ := Aside0.mk ((by rw [hg]; exact Nat.ne_of_lt (blk_lt (g := gb392) (o := .cells #[.int .i64 0, .int .i64 0, .int .i64 0] 28 (0, 0)) (bk_ BK392)) : gb392 ≠ gb391))
          have n12_ := Aside0.mk ((by rw [hg]; exact Nat.ne_of_gt (blk_lt (g := gb392) (o := .cells #[.int .i64 0, .int .i64 0, .int .i64 0] 28 (0, 0)) (bk_ BK392)) : gb391 ≠ gb392))
          clear BK382
          clear BK383
          clear BK392
          clear HB
          have BK382 := n0_
          have BK383 := n1_
          have BK392 := n2_
          have HB := n3_
          have BK391 := n4_
          have GW391 := n5_
          have GE391 := n6_
          have NB382_391 := n7_
          have NB391_382 := n8_
          have NB383_391 := n9_
          have NB391_383 := n10_
          have NB392_391 := n11_
          have NB391_392 := n12_
          clear n0_ n1_ n2_ n3_ n4_ n5_ n6_ n7_ n8_ n9_ n10_ n11_ n12_
          clear hb hbox hg
          refine hK.out _ _ ⟨(blk_cell BK382.out 0).trans rfl, (blk_cell BK382.out 1).trans rfl, (blk_cell BK382.out 2).trans rfl, (blk_cell BK383.out 0).trans rfl, (blk_cell BK383.out 1).trans rfl, (blk_cell BK383.out 2).trans rfl⟩ (fun hHeld => ?_)
          clear hK K
          refine norm_ (a' := ?_) ?_ ?_
          rotate_left
          ·show Act.put _ (some 6) _ = _
           simp only [Act.put, List.setIfInBounds_toArray, List.set_cons_zero, List.set_cons_succ, i64_w, i32_w]
           rfl
          exact norm_ (by first | (simp only [putAll, Act.put, List.setIfInBounds_toArray, List.set_cons_zero, List.set_cons_succ]; done) | (simp only [putAll, Act.put, List.setIfInBounds_toArray, List.set_cons_zero, List.set_cons_succ]; rfl)) (hJ1_4_5 (gb391, gb392) _ ⟨hHeld, (bk_ BK382), (bk_ BK383), (bk_ BK391), (bk_ BK392), GW391.out, GE391.out, NB382_391.out, NB391_382.out, NB383_391.out, NB391_383.out, NB392_391.out, NB391_392.out, GW392.out, GE392.out, NB382_392.out, NB392_382.out, NB383_392.out, NB392_383.out, (bl_ HB)⟩)
       ·skip
        rintro gb391 w14 ⟨hS_, h0_, h1_, h2_, h3_, h4_, h5_, h6_, h7_, h8_, h9_⟩
        have n0_ : Aside0 (w14.heap[gb382]? = some (.cells #[.int .i64 a0_0, .int .u32 a0_1, .int .u16 a0_2] 25 (0, 0))) := ⟨h0_⟩
        have n1_ : Aside0 (w14.heap[gb383]? = some (.cells #[.int .i64 a1_0, .int .u32 a1_1, .int .u16 a1_2] 25 (0, 0))) := ⟨h1_⟩
        have n2_ : Aside0 (w14.heap[gb391]? = some (.cells #[.int .i64 0, .int .i64 0, .int .i64 0] 28 (0, 0))) := ⟨h2_⟩
        have n3_ : Aside0 (w.heap.size ≤ gb391) := ⟨h3_⟩
        have n4_ : Aside0 (w.heap.size ≤ gb391) := ⟨h4_⟩
        have n5_ : Aside0 (gb382 ≠ gb391) := ⟨h5_⟩
        have n6_ : Aside0 (gb391 ≠ gb382) := ⟨h6_⟩
        have n7_ : Aside0 (gb383 ≠ gb391) := ⟨h7_⟩
        have n8_ : Aside0 (gb391 ≠ gb383) := ⟨h8_⟩
        have n9_ : Aside0 (Below w.heap.size w w14) := ⟨h9_⟩
        clear BK382
        clear BK383
        clear HB
        clear h0_ h1_ h2_ h3_ h4_ h5_ h6_ h7_ h8_ h9_
        have BK382 := n0_
        have BK383 := n1_
        have BK391 := n2_
        have GW391 := n3_
        have GE391 := n4_
        have NB382_391 := n5_
        have NB391_382 := n6_
        have NB383_391 := n7_
        have NB391_383 := n8_
        have HB := n9_
        clear n0_ n1_ n2_ n3_ n4_ n5_ n6_ n7_ n8_ n9_
        have hHeld : w14.cell? ⟨gb382, 0, none⟩ = some (.int .i64 a0_0) ∧ w14.cell? ⟨gb382, 1, none⟩ = some (.int .u32 a0_1) ∧ w14.cell? ⟨gb382, 2, none⟩ = some (.int .u16 a0_2) ∧ w14.cell? ⟨gb383, 0, none⟩ = some (.int .i64 a1_0) ∧ w14.cell? ⟨gb383, 1, none⟩ = some (.int .u32 a1_1) ∧ w14.cell? ⟨gb383, 2, none⟩ = some (.int .u16 a1_2) := hS_
        refine norm_ (a' := ?_) ?_ ?_
        rotate_left
        ·simp only [putAll, Act.put, List.setIfInBounds_toArray, List.set_cons_zero, List.set_cons_succ]
         rfl
        refine two_ (i := 3) (j := 5) (Ni := some 18) (Nj := some 7) #[true, true, true, true, true, false, false, false] #[true, true, true, false, true, true, false, false] rfl rfl rfl rfl (two_of HT_.out (by kernel_rfl)) (by decide) (by decide) (fun K hK => ?_) (fun K hK => ?_)
        ·skip
         refine goes_ Try.func11 (by kernel_rfl) rfl #[.agg #[.int .i64 a1_0, .int .u32 a1_1, .int .u16 a1_2]] (by rfl) rfl rfl am_ ?_
         with_reducible refine (warpwrightref25_Small.calls a1_0 a1_1 a1_2 t388 t389 t390 _ A6.out).mono ?_
         rintro e w15 ⟨rfl, hb⟩
         refine ⟨_, rfl, ?_⟩
         have n0_ := Aside0.mk (blk_below (g := gb382) (o := .cells #[.int .i64 a0_0, .int .u32 a0_1, .int .u16 a0_2] 25 (0, 0)) (bk_ BK382) hb)
         have n1_ := Aside0.mk (blk_below (g := gb383) (o := .cells #[.int .i64 a1_0, .int .u32 a1_1, .int .u16 a1_2] 25 (0, 0)) (bk_ BK383) hb)
         have n2_ := Aside0.mk (blk_below (g := gb391) (o := .cells #[.int .i64 0, .int .i64 0, .int .i64 0] 28 (0, 0)) (bk_ BK391) hb)
         have n3_ := Aside0.mk (below_step (bl_ HB) hb)
         clear BK382
         clear BK383
         clear BK391
         clear HB
         have BK382 := n0_
         have BK383 := n1_
         have BK391 := n2_
         have HB := n3_
         clear n0_ n1_ n2_ n3_
         (try clear hb)
         (try clear hb2)
         (try clear hk)
         (try clear hi)
         refine hK.out _ _ ⟨(blk_cell BK382.out 0).trans rfl, (blk_cell BK382.out 1).trans rfl, (blk_cell BK382.out 2).trans rfl, (blk_cell BK383.out 0).trans rfl, (blk_cell BK383.out 1).trans rfl, (blk_cell BK383.out 2).trans rfl⟩ (fun hHeld => ?_)
         clear hK K
         refine norm_ (a' := ?_) ?_ ?_
         rotate_left
         ·show Act.put _ (some 18) _ = _
          simp only [Act.put, List.setIfInBounds_toArray, List.set_cons_zero, List.set_cons_succ, i64_w, i32_w]
          rfl
         exact norm_ (by first | (simp only [putAll, Act.put, List.setIfInBounds_toArray, List.set_cons_zero, List.set_cons_succ]; done) | (simp only [putAll, Act.put, List.setIfInBounds_toArray, List.set_cons_zero, List.set_cons_succ]; rfl)) (hJ1_3_4 (gb391) _ ⟨hHeld, (bk_ BK382), (bk_ BK383), (bk_ BK391), GW391.out, GE391.out, NB382_391.out, NB391_382.out, NB383_391.out, NB391_383.out, (bl_ HB)⟩)
        ·skip
         refine box_step ?hg (N := 7) ?hd (cs := #[.int .i64 0, .int .i64 0, .int .i64 0]) (t := 28) ?hr ?_; (case hd => rfl); (case hg => rfl); (case hr => first | (go_simp; done) | (go_simp; rfl))
         intro gb392 hg w15 hbox hb
         have n0_ := Aside0.mk (blk_below (g := gb382) (o := .cells #[.int .i64 a0_0, .int .u32 a0_1, .int .u16 a0_2] 25 (0, 0)) (bk_ BK382) hb)
         have n1_ := Aside0.mk (blk_below (g := gb383) (o := .cells #[.int .i64 a1_0, .int .u32 a1_1, .int .u16 a1_2] 25 (0, 0)) (bk_ BK383) hb)
         have n2_ := Aside0.mk (blk_below (g := gb391) (o := .cells #[.int .i64 0, .int .i64 0, .int .i64 0] 28 (0, 0)) (bk_ BK391) hb)
         have n3_ := Aside0.mk (below_step (bl_ HB) hb)
         have n4_ := Aside0.mk (hbox)
         have n5_ := Aside0.mk ((by rw [hg]; exact (below_size (bl_ HB)) : w.heap.size ≤ gb392))
         have n6_ := Aside0.mk ((by rw [hg]; exact (below_size (bl_ HB)) : w.heap.size ≤ gb392))
         have n7_ := Aside0.mk ((by rw [hg]; exact Nat.ne_of_lt (blk_lt (g := gb382) (o := .cells #[.int .i64 a0_0, .int .u32 a0_1, .int .u16 a0_2] 25 (0, 0)) (bk_ BK382)) : gb382 ≠ gb392))
         have n8_ := Aside0.mk ((by rw [hg]; exact Nat.ne_of_gt (blk_lt (g := gb382) (o := .cells #[.int .i64 a0_0, .int .u32 a0_1, .int .u16 a0_2] 25 (0, 0)) (bk_ BK382)) : gb392 ≠ gb382))
         have n9_ := Aside0.mk ((by rw [hg]; exact Nat.ne_of_lt (blk_lt (g := gb383) (o := .cells #[.int .i64 a1_0, .int .u32 a1_1, .int .u16 a1_2] 25 (0, 0)) (bk_ BK383)) : gb383 ≠ gb392))
         have n10_ := Aside0.mk ((by rw [hg]; exact Nat.ne_of_gt (blk_lt (g := gb383) (o := .cells #[.int .i64 a1_0, .int .u32 a1_1, .int .u16 a1_2] 25 (0, 0)) (bk_ BK383)) : gb392 ≠ gb383))
         have n11_ := Aside0.mk ((by rw [hg]; exact Nat.ne_of_lt (blk_lt (g := gb391) (o := .cells #[.int .i64 0, .int .i64 0, .int .i64 0] 28 (0, 0)) (bk_ BK391)) : gb391 ≠ gb392))
         have n12_ := Aside0.mk ((by rw [hg]; exact Nat.ne_of_gt (blk_lt (g := gb391) (o := .cells #[.int .i64 0, .int .i64 0, .int .i64 0] 28 (0, 0)) (bk_ BK391)) : gb392 ≠ gb391))
         clear BK382
         clear BK383
         clear BK391
         clear HB
         have BK382 := n0_
         have BK383 := n1_
         have BK391 := n2_
         have HB := n3_
         have BK392 := n4_
         have GW392 := n5_
         have GE392 := n6_
         have NB382_392 := n7_
         have NB392_382 := n8_
         have NB383_392 := n9_
         have NB392_383 := n10_
         have NB391_392 := n11_
         have NB392_391 := n12_
         clear n0_ n1_ n2_ n3_ n4_ n5_ n6_ n7_ n8_ n9_ n10_ n11_ n12_
         clear hb hbox hg
         refine hK.out _ _ ⟨(blk_cell BK382.out 0).trans rfl, (blk_cell BK382.out 1).trans rfl, (blk_cell BK382.out 2).trans rfl, (blk_cell BK383.out 0).trans rfl, (blk_cell BK383.out 1).trans rfl, (blk_cell BK383.out 2).trans rfl⟩ (fun hHeld => ?_)
         clear hK K
         refine norm_ (a' := ?_) ?_ ?_
         rotate_left
         ·show Act.put _ (some 7) _ = _
          simp only [Act.put, List.setIfInBounds_toArray, List.set_cons_zero, List.set_cons_succ, i64_w, i32_w]
          rfl
         exact norm_ (by first | (simp only [putAll, Act.put, List.setIfInBounds_toArray, List.set_cons_zero, List.set_cons_succ]; done) | (simp only [putAll, Act.put, List.setIfInBounds_toArray, List.set_cons_zero, List.set_cons_succ]; rfl)) (hJ1_4_5 (gb391, gb392) _ ⟨hHeld, (bk_ BK382), (bk_ BK383), (bk_ BK391), (bk_ BK392), GW391.out, GE391.out, NB382_391.out, NB391_382.out, NB383_391.out, NB391_383.out, NB392_391.out, NB391_392.out, GW392.out, GE392.out, NB382_392.out, NB392_382.out, NB383_392.out, NB392_383.out, (bl_ HB)⟩)
      ·skip
       rintro _ w14 ⟨hS_, h0_, h1_, h2_⟩
       have n0_ : Aside0 (w14.heap[gb382]? = some (.cells #[.int .i64 a0_0, .int .u32 a0_1, .int .u16 a0_2] 25 (0, 0))) := ⟨h0_⟩
       have n1_ : Aside0 (w14.heap[gb383]? = some (.cells #[.int .i64 a1_0, .int .u32 a1_1, .int .u16 a1_2] 25 (0, 0))) := ⟨h1_⟩
       have n2_ : Aside0 (Below w.heap.size w w14) := ⟨h2_⟩
       clear BK382
       clear BK383
       clear HB
       clear h0_ h1_ h2_
       have BK382 := n0_
       have BK383 := n1_
       have HB := n2_
       clear n0_ n1_ n2_
       have hHeld : w14.cell? ⟨gb382, 0, none⟩ = some (.int .i64 a0_0) ∧ w14.cell? ⟨gb382, 1, none⟩ = some (.int .u32 a0_1) ∧ w14.cell? ⟨gb382, 2, none⟩ = some (.int .u16 a0_2) ∧ w14.cell? ⟨gb383, 0, none⟩ = some (.int .i64 a1_0) ∧ w14.cell? ⟨gb383, 1, none⟩ = some (.int .u32 a1_1) ∧ w14.cell? ⟨gb383, 2, none⟩ = some (.int .u16 a1_2) := hS_
       refine norm_ (a' := ?_) ?_ ?_
       rotate_left
       ·simp only [putAll, Act.put, List.setIfInBounds_toArray, List.set_cons_zero, List.set_cons_succ]
        rfl
       refine two_ (i := 4) (j := 5) (Ni := some 6) (Nj := some 7) #[true, true, true, true, true, false, false, false] #[true, true, true, true, false, true, false, false] rfl rfl rfl rfl (two_of HT_.out (by kernel_rfl)) (by decide) (by decide) (fun K hK => ?_) (fun K hK => ?_)
       ·skip
        refine box_step ?hg (N := 6) ?hd (cs := #[.int .i64 0, .int .i64 0, .int .i64 0]) (t := 28) ?hr ?_; (case hd => rfl); (case hg => rfl); (case hr => first | (go_simp; done) | (go_simp; rfl))
        intro gb391 hg w15 hbox hb
        have n0_ := Aside0.mk (blk_below (g := gb382) (o := .cells #[.int .i64 a0_0, .int .u32 a0_1, .int .u16 a0_2] 25 (0, 0)) (bk_ BK382) hb)
        have n1_ := Aside0.mk (blk_below (g := gb383) (o := .cells #[.int .i64 a1_0, .int .u32 a1_1, .int .u16 a1_2] 25 (0, 0)) (bk_ BK383) hb)
        have n2_ := Aside0.mk (below_step (bl_ HB) hb)
        have n3_ := Aside0.mk (hbox)
        have n4_ := Aside0.mk ((by rw [hg]; exact (below_size (bl_ HB)) : w.heap.size ≤ gb391))
        have n5_ := Aside0.mk ((by rw [hg]; exact (below_size (bl_ HB)) : w.heap.size ≤ gb391))
        have n6_ := Aside0.mk ((by rw [hg]; exact Nat.ne_of_lt (blk_lt (g := gb382) (o := .cells #[.int .i64 a0_0, .int .u32 a0_1, .int .u16 a0_2] 25 (0, 0)) (bk_ BK382)) : gb382 ≠ gb391))
        have n7_ := Aside0.mk ((by rw [hg]; exact Nat.ne_of_gt (blk_lt (g := gb382) (o := .cells #[.int .i64 a0_0, .int .u32 a0_1, .int .u16 a0_2] 25 (0, 0)) (bk_ BK382)) : gb391 ≠ gb382))
        have n8_ := Aside0.mk ((by rw [hg]; exact Nat.ne_of_lt (blk_lt (g := gb383) (o := .cells #[.int .i64 a1_0, .int .u32 a1_1, .int .u16 a1_2] 25 (0, 0)) (bk_ BK383)) : gb383 ≠ gb391))
        have n9_ := Aside0.mk ((by rw [hg]; exact Nat.ne_of_gt (blk_lt (g := gb383) (o := .cells #[.int .i64 a1_0, .int .u32 a1_1, .int .u16 a1_2] 25 (0, 0)) (bk_ BK383)) : gb391 ≠ gb383))
        clear BK382
        clear BK383
        clear HB
        have BK382 := n0_
        have BK383 := n1_
        have HB := n2_
        have BK391 := n3_
        have GW391 := n4_
        have GE391 := n5_
        have NB382_391 := n6_
        have NB391_382 := n7_
        have NB383_391 := n8_
        have NB391_383 := n9_
        clear n0_ n1_ n2_ n3_ n4_ n5_ n6_ n7_ n8_ n9_
        clear hb hbox hg
        refine hK.out _ _ ⟨(blk_cell BK382.out 0).trans rfl, (blk_cell BK382.out 1).trans rfl, (blk_cell BK382.out 2).trans rfl, (blk_cell BK383.out 0).trans rfl, (blk_cell BK383.out 1).trans rfl, (blk_cell BK383.out 2).trans rfl⟩ (fun hHeld => ?_)
        clear hK K
        refine norm_ (a' := ?_) ?_ ?_
        rotate_left
        ·show Act.put _ (some 6) _ = _
         simp only [Act.put, List.setIfInBounds_toArray, List.set_cons_zero, List.set_cons_succ, i64_w, i32_w]
         rfl
        exact norm_ (by first | (simp only [putAll, Act.put, List.setIfInBounds_toArray, List.set_cons_zero, List.set_cons_succ]; done) | (simp only [putAll, Act.put, List.setIfInBounds_toArray, List.set_cons_zero, List.set_cons_succ]; rfl)) (hJ1_3_4 (gb391) _ ⟨hHeld, (bk_ BK382), (bk_ BK383), (bk_ BK391), GW391.out, GE391.out, NB382_391.out, NB391_382.out, NB383_391.out, NB391_383.out, (bl_ HB)⟩)
       ·skip
        refine box_step ?hg (N := 7) ?hd (cs := #[.int .i64 0, .int .i64 0, .int .i64 0]) (t := 28) ?hr ?_; (case hd => rfl); (case hg => rfl); (case hr => first | (go_simp; done) | (go_simp; rfl))
        intro gb392 hg w15 hbox hb
        have n0_ := Aside0.mk (blk_below (g := gb382) (o := .cells #[.int .i64 a0_0, .int .u32 a0_1, .int .u16 a0_2] 25 (0, 0)) (bk_ BK382) hb)
        have n1_ := Aside0.mk (blk_below (g := gb383) (o := .cells #[.int .i64 a1_0, .int .u32 a1_1, .int .u16 a1_2] 25 (0, 0)) (bk_ BK383) hb)
        have n2_ := Aside0.mk (below_step (bl_ HB) hb)
        have n3_ := Aside0.mk (hbox)
        have n4_ := Aside0.mk ((by rw [hg]; exact (below_size (bl_ HB)) : w.heap.size ≤ gb392))
        have n5_ := Aside0.mk ((by rw [hg]; exact (below_size (bl_ HB)) : w.heap.size ≤ gb392))
        have n6_ := Aside0.mk ((by rw [hg]; exact Nat.ne_of_lt (blk_lt (g := gb382) (o := .cells #[.int .i64 a0_0, .int .u32 a0_1, .int .u16 a0_2] 25 (0, 0)) (bk_ BK382)) : gb382 ≠ gb392))
        have n7_ := Aside0.mk ((by rw [hg]; exact Nat.ne_of_gt (blk_lt (g := gb382) (o := .cells #[.int .i64 a0_0, .int .u32 a0_1, .int .u16 a0_2] 25 (0, 0)) (bk_ BK382)) : gb392 ≠ gb382))
        have n8_ := Aside0.mk ((by rw [hg]; exact Nat.ne_of_lt (blk_lt (g := gb383) (o := .cells #[.int .i64 a1_0, .int .u32 a1_1, .int .u16 a1_2] 25 (0, 0)) (bk_ BK383)) : gb383 ≠ gb392))
        have n9_ := Aside0.mk ((by rw [hg]; exact Nat.ne_of_gt (blk_lt (g := gb383) (o := .cells #[.int .i64 a1_0, .int .u32 a1_1, .int .u16 a1_2] 25 (0, 0)) (bk_ BK383)) : gb392 ≠ gb383))
        clear BK382
        clear BK383
        clear HB
        have BK382 := n0_
        have BK383 := n1_
        have HB := n2_
        have BK392 := n3_
        have GW392 := n4_
        have GE392 := n5_
        have NB382_392 := n6_
        have NB392_382 := n7_
        have NB383_392 := n8_
        have NB392_383 := n9_
        clear n0_ n1_ n2_ n3_ n4_ n5_ n6_ n7_ n8_ n9_
        clear hb hbox hg
        refine hK.out _ _ ⟨(blk_cell BK382.out 0).trans rfl, (blk_cell BK382.out 1).trans rfl, (blk_cell BK382.out 2).trans rfl, (blk_cell BK383.out 0).trans rfl, (blk_cell BK383.out 1).trans rfl, (blk_cell BK383.out 2).trans rfl⟩ (fun hHeld => ?_)
        clear hK K
        refine norm_ (a' := ?_) ?_ ?_
        rotate_left
        ·show Act.put _ (some 7) _ = _
         simp only [Act.put, List.setIfInBounds_toArray, List.set_cons_zero, List.set_cons_succ, i64_w, i32_w]
         rfl
        exact norm_ (by first | (simp only [putAll, Act.put, List.setIfInBounds_toArray, List.set_cons_zero, List.set_cons_succ]; done) | (simp only [putAll, Act.put, List.setIfInBounds_toArray, List.set_cons_zero, List.set_cons_succ]; rfl)) (hJ1_3_5 (gb392) _ ⟨hHeld, (bk_ BK382), (bk_ BK383), (bk_ BK392), GW392.out, GE392.out, NB382_392.out, NB392_382.out, NB383_392.out, NB392_383.out, (bl_ HB)⟩)
     ·skip
      rintro ⟨gb391, gb392⟩ w15 ⟨hS_, h0_, h1_, h2_, h3_, h4_, h5_, h6_, h7_, h8_, h9_, h10_, h11_, h12_, h13_, h14_, h15_, h16_, h17_, h18_⟩
      have n0_ : Aside0 (w15.heap[gb382]? = some (.cells #[.int .i64 a0_0, .int .u32 a0_1, .int .u16 a0_2] 25 (0, 0))) := ⟨h0_⟩
      have n1_ : Aside0 (w15.heap[gb383]? = some (.cells #[.int .i64 a1_0, .int .u32 a1_1, .int .u16 a1_2] 25 (0, 0))) := ⟨h1_⟩
      have n2_ : Aside0 (w15.heap[gb391]? = some (.cells #[.int .i64 0, .int .i64 0, .int .i64 0] 28 (0, 0))) := ⟨h2_⟩
      have n3_ : Aside0 (w15.heap[gb392]? = some (.cells #[.int .i64 0, .int .i64 0, .int .i64 0] 28 (0, 0))) := ⟨h3_⟩
      have n4_ : Aside0 (w.heap.size ≤ gb391) := ⟨h4_⟩
      have n5_ : Aside0 (w.heap.size ≤ gb391) := ⟨h5_⟩
      have n6_ : Aside0 (gb382 ≠ gb391) := ⟨h6_⟩
      have n7_ : Aside0 (gb391 ≠ gb382) := ⟨h7_⟩
      have n8_ : Aside0 (gb383 ≠ gb391) := ⟨h8_⟩
      have n9_ : Aside0 (gb391 ≠ gb383) := ⟨h9_⟩
      have n10_ : Aside0 (gb392 ≠ gb391) := ⟨h10_⟩
      have n11_ : Aside0 (gb391 ≠ gb392) := ⟨h11_⟩
      have n12_ : Aside0 (w.heap.size ≤ gb392) := ⟨h12_⟩
      have n13_ : Aside0 (w.heap.size ≤ gb392) := ⟨h13_⟩
      have n14_ : Aside0 (gb382 ≠ gb392) := ⟨h14_⟩
      have n15_ : Aside0 (gb392 ≠ gb382) := ⟨h15_⟩
      have n16_ : Aside0 (gb383 ≠ gb392) := ⟨h16_⟩
      have n17_ : Aside0 (gb392 ≠ gb383) := ⟨h17_⟩
      have n18_ : Aside0 (Below w.heap.size w w15) := ⟨h18_⟩
      clear BK382
      clear BK383
      clear HB
      clear h0_ h1_ h2_ h3_ h4_ h5_ h6_ h7_ h8_ h9_ h10_ h11_ h12_ h13_ h14_ h15_ h16_ h17_ h18_
      have BK382 := n0_
      have BK383 := n1_
      have BK391 := n2_
      have BK392 := n3_
      have GW391 := n4_
      have GE391 := n5_
      have NB382_391 := n6_
      have NB391_382 := n7_
      have NB383_391 := n8_
      have NB391_383 := n9_
      have NB392_391 := n10_
      have NB391_392 := n11_
      have GW392 := n12_
      have GE392 := n13_
      have NB382_392 := n14_
      have NB392_382 := n15_
      have NB383_392 := n16_
      have NB392_383 := n17_
      have HB := n18_
      clear n0_ n1_ n2_ n3_ n4_ n5_ n6_ n7_ n8_ n9_ n10_ n11_ n12_ n13_ n14_ n15_ n16_ n17_ n18_
      have hHeld : w15.cell? ⟨gb382, 0, none⟩ = some (.int .i64 a0_0) ∧ w15.cell? ⟨gb382, 1, none⟩ = some (.int .u32 a0_1) ∧ w15.cell? ⟨gb382, 2, none⟩ = some (.int .u16 a0_2) ∧ w15.cell? ⟨gb383, 0, none⟩ = some (.int .i64 a1_0) ∧ w15.cell? ⟨gb383, 1, none⟩ = some (.int .u32 a1_1) ∧ w15.cell? ⟨gb383, 2, none⟩ = some (.int .u16 a1_2) := hS_
      refine norm_ (a' := ?_) ?_ ?_
      rotate_left
      ·simp only [putAll, Act.put, List.setIfInBounds_toArray, List.set_cons_zero, List.set_cons_succ]
       rfl
      refine one_ (i := 3) (N := some 18) #[true, true, true, true, true, true, false, false] rfl rfl (one_of HT_.out (by kernel_rfl)) (by decide) (fun K hK => ?_)
      refine goes_ Try.func11 (by kernel_rfl) rfl #[.agg #[.int .i64 a1_0, .int .u32 a1_1, .int .u16 a1_2]] (by rfl) rfl rfl am_ ?_
      with_reducible refine (warpwrightref25_Small.calls a1_0 a1_1 a1_2 t388 t389 t390 _ A6.out).mono ?_
      rintro e w16 ⟨rfl, hb⟩
      refine ⟨_, rfl, ?_⟩
      have n0_ := Aside0.mk (blk_below (g := gb382) (o := .cells #[.int .i64 a0_0, .int .u32 a0_1, .int .u16 a0_2] 25 (0, 0)) (bk_ BK382) hb)
      have n1_ := Aside0.mk (blk_below (g := gb383) (o := .cells #[.int .i64 a1_0, .int .u32 a1_1, .int .u16 a1_2] 25 (0, 0)) (bk_ BK383) hb)
      have n2_ := Aside0.mk (blk_below (g := gb391) (o := .cells #[.int .i64 0, .int .i64 0, .int .i64 0] 28 (0, 0)) (bk_ BK391) hb)
      have n3_ := Aside0.mk (blk_below (g := gb392) (o := .cells #[.int .i64 0, .int .i64 0, .int .i64 0] 28 (0, 0)) (bk_ BK392) hb)
      have n4_ := Aside0.mk (below_step (bl_ HB) hb)
      clear BK382
      clear BK383
      clear BK391
      clear BK392
      clear HB
      have BK382 := n0_
      have BK383 := n1_
      have BK391 := n2_
      have BK392 := n3_
      have HB := n4_
      clear n0_ n1_ n2_ n3_ n4_
      (try clear hb)
      (try clear hb2)
      (try clear hk)
      (try clear hi)
      refine hK.out _ _ ⟨(blk_cell BK382.out 0).trans rfl, (blk_cell BK382.out 1).trans rfl, (blk_cell BK382.out 2).trans rfl, (blk_cell BK383.out 0).trans rfl, (blk_cell BK383.out 1).trans rfl, (blk_cell BK383.out 2).trans rfl⟩ (fun hHeld => ?_)
      clear hK K
      refine norm_ (a' := ?_) ?_ ?_
      rotate_left
      ·show Act.put _ (some 18) _ = _
       simp only [Act.put, List.setIfInBounds_toArray, List.set_cons_zero, List.set_cons_succ, i64_w, i32_w]
       rfl
      exact norm_ (by first | (simp only [putAll, Act.put, List.setIfInBounds_toArray, List.set_cons_zero, List.set_cons_succ]; done) | (simp only [putAll, Act.put, List.setIfInBounds_toArray, List.set_cons_zero, List.set_cons_succ]; rfl)) (hJ1_3_4_5 (gb391, gb392) _ ⟨hHeld, (bk_ BK382), (bk_ BK383), (bk_ BK391), (bk_ BK392), GW391.out, GE391.out, NB382_391.out, NB391_382.out, NB383_391.out, NB391_383.out, NB392_391.out, NB391_392.out, GW392.out, GE392.out, NB382_392.out, NB392_382.out, NB383_392.out, NB392_383.out, (bl_ HB)⟩)
    ·skip
     rintro gb392 w15 ⟨hS_, h0_, h1_, h2_, h3_, h4_, h5_, h6_, h7_, h8_, h9_⟩
     have n0_ : Aside0 (w15.heap[gb382]? = some (.cells #[.int .i64 a0_0, .int .u32 a0_1, .int .u16 a0_2] 25 (0, 0))) := ⟨h0_⟩
     have n1_ : Aside0 (w15.heap[gb383]? = some (.cells #[.int .i64 a1_0, .int .u32 a1_1, .int .u16 a1_2] 25 (0, 0))) := ⟨h1_⟩
     have n2_ : Aside0 (w15.heap[gb392]? = some (.cells #[.int .i64 0, .int .i64 0, .int .i64 0] 28 (0, 0))) := ⟨h2_⟩
     have n3_ : Aside0 (w.heap.size ≤ gb392) := ⟨h3_⟩
     have n4_ : Aside0 (w.heap.size ≤ gb392) := ⟨h4_⟩
     have n5_ : Aside0 (gb382 ≠ gb392) := ⟨h5_⟩
     have n6_ : Aside0 (gb392 ≠ gb382) := ⟨h6_⟩
     have n7_ : Aside0 (gb383 ≠ gb392) := ⟨h7_⟩
     have n8_ : Aside0 (gb392 ≠ gb383) := ⟨h8_⟩
     have n9_ : Aside0 (Below w.heap.size w w15) := ⟨h9_⟩
     clear BK382
     clear BK383
     clear HB
     clear h0_ h1_ h2_ h3_ h4_ h5_ h6_ h7_ h8_ h9_
     have BK382 := n0_
     have BK383 := n1_
     have BK392 := n2_
     have GW392 := n3_
     have GE392 := n4_
     have NB382_392 := n5_
     have NB392_382 := n6_
     have NB383_392 := n7_
     have NB392_383 := n8_
     have HB := n9_
     clear n0_ n1_ n2_ n3_ n4_ n5_ n6_ n7_ n8_ n9_
     have hHeld : w15.cell? ⟨gb382, 0, none⟩ = some (.int .i64 a0_0) ∧ w15.cell? ⟨gb382, 1, none⟩ = some (.int .u32 a0_1) ∧ w15.cell? ⟨gb382, 2, none⟩ = some (.int .u16 a0_2) ∧ w15.cell? ⟨gb383, 0, none⟩ = some (.int .i64 a1_0) ∧ w15.cell? ⟨gb383, 1, none⟩ = some (.int .u32 a1_1) ∧ w15.cell? ⟨gb383, 2, none⟩ = some (.int .u16 a1_2) := hS_
     refine norm_ (a' := ?_) ?_ ?_
     rotate_left
     ·simp only [putAll, Act.put, List.setIfInBounds_toArray, List.set_cons_zero, List.set_cons_succ]
      rfl
     refine one_ (i := 4) (N := some 6) #[true, true, true, true, true, true, false, false] rfl rfl (one_of HT_.out (by kernel_rfl)) (by decide) (fun K hK => ?_)
     refine box_step ?hg (N := 6) ?hd (cs := #[.int .i64 0, .int .i64 0, .int .i64 0]) (t := 28) ?hr ?_; (case hd => rfl); (case hg => rfl); (case hr => first | (go_simp; done) | (go_simp; rfl))
     intro gb391 hg w16 hbox hb
     have n0_ := Aside0.mk (blk_below (g := gb382) (o := .cells #[.int .i64 a0_0, .int .u32 a0_1, .int .u16 a0_2] 25 (0, 0)) (bk_ BK382) hb)
     have n1_ := Aside0.mk (blk_below (g := gb383) (o := .cells #[.int .i64 a1_0, .int .u32 a1_1, .int .u16 a1_2] 25 (0, 0)) (bk_ BK383) hb)
     have n2_ := Aside0.mk (blk_below (g := gb392) (o := .cells #[.int .i64 0, .int .i64 0, .int .i64 0] 28 (0, 0)) (bk_ BK392) hb)
     have n3_ := Aside0.mk (below_step (bl_ HB) hb)
     have n4_ := Aside0.mk (hbox)
     have n5_ := Aside0.mk ((by rw [hg]; exact (below_size (bl_ HB)) : w.heap.size ≤ gb391))
     have n6_ := Aside0.mk ((by rw [hg]; exact (below_size (bl_ HB)) : w.heap.size ≤ gb391))
     have n7_ := Aside0.mk ((by rw [hg]; exact Nat.ne_of_lt (blk_lt (g := gb382) (o := .cells #[.int .i64 a0_0, .int .u32 a0_1, .int .u16 a0_2] 25 (0, 0)) (bk_ BK382)) : gb382 ≠ gb391))
     have n8_ := Aside0.mk ((by rw [hg]; exact Nat.ne_of_gt (blk_lt (g := gb382) (o := .cells #[.int .i64 a0_0, .int .u32 a0_1, .int .u16 a0_2] 25 (0, 0)) (bk_ BK382)) : gb391 ≠ gb382))
     have n9_ := Aside0.mk ((by rw [hg]; exact Nat.ne_of_lt (blk_lt (g := gb383) (o := .cells #[.int .i64 a1_0, .int .u32 a1_1, .int .u16 a1_2] 25 (0, 0)) (bk_ BK383)) : gb383 ≠ gb391))
     have n10_ := Aside0.mk ((by rw [hg]; exact Nat.ne_of_gt (blk_lt (g := gb383) (o := .cells #[.int .i64 a1_0, .int .u32 a1_1, .int .u16 a1_2] 25 (0, 0)) (bk_ BK383)) : gb391 ≠ gb383))
     have n11_ := Aside0.mk ((by rw [hg]; exact Nat.ne_of_lt (blk_lt (g := gb392) (o := .cells #[.int .i64 0, .int .i64 0, .int .i64 0] 28 (0, 0)) (bk_ BK392)) : gb392 ≠ gb391))
     have n12_ := Aside0.mk ((by rw [hg]; exact Nat.ne_of_gt (blk_lt (g := gb392) (o := .cells #[.int .i64 0, .int .i64 0, .int .i64 0] 28 (0, 0)) (bk_ BK392)) : gb391 ≠ gb392))
     clear BK382
     clear BK383
     clear BK392
     clear HB
     have BK382 := n0_
     have BK383 := n1_
     have BK392 := n2_
     have HB := n3_
     have BK391 := n4_
     have GW391 := n5_
     have GE391 := n6_
     have NB382_391 := n7_
     have NB391_382 := n8_
     have NB383_391 := n9_
     have NB391_383 := n10_
     have NB392_391 := n11_
     have NB391_392 := n12_
     clear n0_ n1_ n2_ n3_ n4_ n5_ n6_ n7_ n8_ n9_ n10_ n11_ n12_
     clear hb hbox hg
     refine hK.out _ _ ⟨(blk_cell BK382.out 0).trans rfl, (blk_cell BK382.out 1).trans rfl, (blk_cell BK382.out 2).trans rfl, (blk_cell BK383.out 0).trans rfl, (blk_cell BK383.out 1).trans rfl, (blk_cell BK383.out 2).trans rfl⟩ (fun hHeld => ?_)
     clear hK K
     refine norm_ (a' := ?_) ?_ ?_
     rotate_left
     ·show Act.put _ (some 6) _ = _
      simp only [Act.put, List.setIfInBounds_toArray, List.set_cons_zero, List.set_cons_succ, i64_w, i32_w]
      rfl
     exact norm_ (by first | (simp only [putAll, Act.put, List.setIfInBounds_toArray, List.set_cons_zero, List.set_cons_succ]; done) | (simp only [putAll, Act.put, List.setIfInBounds_toArray, List.set_cons_zero, List.set_cons_succ]; rfl)) (hJ1_3_4_5 (gb391, gb392) _ ⟨hHeld, (bk_ BK382), (bk_ BK383), (bk_ BK391), (bk_ BK392), GW391.out, GE391.out, NB382_391.out, NB391_382.out, NB383_391.out, NB391_383.out, NB392_391.out, NB391_392.out, GW392.out, GE392.out, NB382_392.out, NB392_382.out, NB383_392.out, NB392_383.out, (bl_ HB)⟩)
   ·skip
    rintro gb391 w15 ⟨hS_, h0_, h1_, h2_, h3_, h4_, h5_, h6_, h7_, h8_, h9_⟩
    have n0_ : Aside0 (w15.heap[gb382]? = some (.cells #[.int .i64 a0_0, .int .u32 a0_1, .int .u16 a0_2] 25 (0, 0))) := ⟨h0_⟩
    have n1_ : Aside0 (w15.heap[gb383]? = some (.cells #[.int .i64 a1_0, .int .u32 a1_1, .int .u16 a1_2] 25 (0, 0))) := ⟨h1_⟩
    have n2_ : Aside0 (w15.heap[gb391]? = some (.cells #[.int .i64 0, .int .i64 0, .int .i64 0] 28 (0, 0))) := ⟨h2_⟩
    have n3_ : Aside0 (w.heap.size ≤ gb391) := ⟨h3_⟩
    have n4_ : Aside0 (w.heap.size ≤ gb391) := ⟨h4_⟩
    have n5_ : Aside0 (gb382 ≠ gb391) := ⟨h5_⟩
    have n6_ : Aside0 (gb391 ≠ gb382) := ⟨h6_⟩
    have n7_ : Aside0 (gb383 ≠ gb391) := ⟨h7_⟩
    have n8_ : Aside0 (gb391 ≠ gb383) := ⟨h8_⟩
    have n9_ : Aside0 (Below w.heap.size w w15) := ⟨h9_⟩
    clear BK382
    clear BK383
    clear HB
    clear h0_ h1_ h2_ h3_ h4_ h5_ h6_ h7_ h8_ h9_
    have BK382 := n0_
    have BK383 := n1_
    have BK391 := n2_
    have GW391 := n3_
    have GE391 := n4_
    have NB382_391 := n5_
    have NB391_382 := n6_
    have NB383_391 := n7_
    have NB391_383 := n8_
    have HB := n9_
    clear n0_ n1_ n2_ n3_ n4_ n5_ n6_ n7_ n8_ n9_
    have hHeld : w15.cell? ⟨gb382, 0, none⟩ = some (.int .i64 a0_0) ∧ w15.cell? ⟨gb382, 1, none⟩ = some (.int .u32 a0_1) ∧ w15.cell? ⟨gb382, 2, none⟩ = some (.int .u16 a0_2) ∧ w15.cell? ⟨gb383, 0, none⟩ = some (.int .i64 a1_0) ∧ w15.cell? ⟨gb383, 1, none⟩ = some (.int .u32 a1_1) ∧ w15.cell? ⟨gb383, 2, none⟩ = some (.int .u16 a1_2) := hS_
    refine norm_ (a' := ?_) ?_ ?_
    rotate_left
    ·simp only [putAll, Act.put, List.setIfInBounds_toArray, List.set_cons_zero, List.set_cons_succ]
     rfl
    refine one_ (i := 5) (N := some 7) #[true, true, true, true, true, true, false, false] rfl rfl (one_of HT_.out (by kernel_rfl)) (by decide) (fun K hK => ?_)
    refine box_step ?hg (N := 7) ?hd (cs := #[.int .i64 0, .int .i64 0, .int .i64 0]) (t := 28) ?hr ?_; (case hd => rfl); (case hg => rfl); (case hr => first | (go_simp; done) | (go_simp; rfl))
    intro gb392 hg w16 hbox hb
    have n0_ := Aside0.mk (blk_below (g := gb382) (o := .cells #[.int .i64 a0_0, .int .u32 a0_1, .int .u16 a0_2] 25 (0, 0)) (bk_ BK382) hb)
    have n1_ := Aside0.mk (blk_below (g := gb383) (o := .cells #[.int .i64 a1_0, .int .u32 a1_1, .int .u16 a1_2] 25 (0, 0)) (bk_ BK383) hb)
    have n2_ := Aside0.mk (blk_below (g := gb391) (o := .cells #[.int .i64 0, .int .i64 0, .int .i64 0] 28 (0, 0)) (bk_ BK391) hb)
    have n3_ := Aside0.mk (below_step (bl_ HB) hb)
    have n4_ := Aside0.mk (hbox)
    have n5_ := Aside0.mk ((by rw [hg]; exact (below_size (bl_ HB)) : w.heap.size ≤ gb392))
    have n6_ := Aside0.mk ((by rw [hg]; exact (below_size (bl_ HB)) : w.heap.size ≤ gb392))
    have n7_ := Aside0.mk ((by rw [hg]; exact Nat.ne_of_lt (blk_lt (g := gb382) (o := .cells #[.int .i64 a0_0, .int .u32 a0_1, .int .u16 a0_2] 25 (0, 0)) (bk_ BK382)) : gb382 ≠ gb392))
    have n8_ := Aside0.mk ((by rw [hg]; exact Nat.ne_of_gt (blk_lt (g := gb382) (o := .cells #[.int .i64 a0_0, .int .u32 a0_1, .int .u16 a0_2] 25 (0, 0)) (bk_ BK382)) : gb392 ≠ gb382))
    have n9_ := Aside0.mk ((by rw [hg]; exact Nat.ne_of_lt (blk_lt (g := gb383) (o := .cells #[.int .i64 a1_0, .int .u32 a1_1, .int .u16 a1_2] 25 (0, 0)) (bk_ BK383)) : gb383 ≠ gb392))
    have n10_ := Aside0.mk ((by rw [hg]; exact Nat.ne_of_gt (blk_lt (g := gb383) (o := .cells #[.int .i64 a1_0, .int .u32 a1_1, .int .u16 a1_2] 25 (0, 0)) (bk_ BK383)) : gb392 ≠ gb383))
    have n11_ := Aside0.mk ((by rw [hg]; exact Nat.ne_of_lt (blk_lt (g := gb391) (o := .cells #[.int .i64 0, .int .i64 0, .int .i64 0] 28 (0, 0)) (bk_ BK391)) : gb391 ≠ gb392))
    have n12_ := Aside0.mk ((by rw [hg]; exact Nat.ne_of_gt (blk_lt (g := gb391) (o := .cells #[.int .i64 0, .int .i64 0, .int .i64 0] 28 (0, 0)) (bk_ BK391)) : gb392 ≠ gb391))
    clear BK382
    clear BK383
    clear BK391
    clear HB
    have BK382 := n0_
    have BK383 := n1_
    have BK391 := n2_
    have HB := n3_
    have BK392 := n4_
    have GW392 := n5_
    have GE392 := n6_
    have NB382_392 := n7_
    have NB392_382 := n8_
    have NB383_392 := n9_
    have NB392_383 := n10_
    have NB391_392 := n11_
    have NB392_391 := n12_
    clear n0_ n1_ n2_ n3_ n4_ n5_ n6_ n7_ n8_ n9_ n10_ n11_ n12_
    clear hb hbox hg
    refine hK.out _ _ ⟨(blk_cell BK382.out 0).trans rfl, (blk_cell BK382.out 1).trans rfl, (blk_cell BK382.out 2).trans rfl, (blk_cell BK383.out 0).trans rfl, (blk_cell BK383.out 1).trans rfl, (blk_cell BK383.out 2).trans rfl⟩ (fun hHeld => ?_)
    clear hK K
    refine norm_ (a' := ?_) ?_ ?_
    rotate_left
    ·show Act.put _ (some 7) _ = _
     simp only [Act.put, List.setIfInBounds_toArray, List.set_cons_zero, List.set_cons_succ, i64_w, i32_w]
     rfl
    exact norm_ (by first | (simp only [putAll, Act.put, List.setIfInBounds_toArray, List.set_cons_zero, List.set_cons_succ]; done) | (simp only [putAll, Act.put, List.setIfInBounds_toArray, List.set_cons_zero, List.set_cons_succ]; rfl)) (hJ1_3_4_5 (gb391, gb392) _ ⟨hHeld, (bk_ BK382), (bk_ BK383), (bk_ BK391), (bk_ BK392), GW391.out, GE391.out, NB382_391.out, NB391_382.out, NB383_391.out, NB391_383.out, NB392_391.out, NB391_392.out, GW392.out, GE392.out, NB382_392.out, NB392_382.out, NB383_392.out, NB392_383.out, (bl_ HB)⟩)
  rintro ⟨gb391, gb392⟩ w16 ⟨hS_, h0_, h1_, h2_, h3_, h4_, h5_, h6_, h7_, h8_, h9_, h10_, h11_, h12_, h13_, h14_, h15_, h16_, h17_, h18_⟩
  have n0_ : Aside0 (w16.heap[gb382]? = some (.cells #[.int .i64 a0_0, .int .u32 a0_1, .int .u16 a0_2] 25 (0, 0))) := ⟨h0_⟩
  have n1_ : Aside0 (w16.heap[gb383]? = some (.cells #[.int .i64 a1_0, .int .u32 a1_1, .int .u16 a1_2] 25 (0, 0))) := ⟨h1_⟩
  have n2_ : Aside0 (w16.heap[gb391]? = some (.cells #[.int .i64 0, .int .i64 0, .int .i64 0] 28 (0, 0))) := ⟨h2_⟩
  have n3_ : Aside0 (w16.heap[gb392]? = some (.cells #[.int .i64 0, .int .i64 0, .int .i64 0] 28 (0, 0))) := ⟨h3_⟩
  have n4_ : Aside0 (w.heap.size ≤ gb391) := ⟨h4_⟩
  have n5_ : Aside0 (w.heap.size ≤ gb391) := ⟨h5_⟩
  have n6_ : Aside0 (gb382 ≠ gb391) := ⟨h6_⟩
  have n7_ : Aside0 (gb391 ≠ gb382) := ⟨h7_⟩
  have n8_ : Aside0 (gb383 ≠ gb391) := ⟨h8_⟩
  have n9_ : Aside0 (gb391 ≠ gb383) := ⟨h9_⟩
  have n10_ : Aside0 (gb392 ≠ gb391) := ⟨h10_⟩
  have n11_ : Aside0 (gb391 ≠ gb392) := ⟨h11_⟩
  have n12_ : Aside0 (w.heap.size ≤ gb392) := ⟨h12_⟩
  have n13_ : Aside0 (w.heap.size ≤ gb392) := ⟨h13_⟩
  have n14_ : Aside0 (gb382 ≠ gb392) := ⟨h14_⟩
  have n15_ : Aside0 (gb392 ≠ gb382) := ⟨h15_⟩
  have n16_ : Aside0 (gb383 ≠ gb392) := ⟨h16_⟩
  have n17_ : Aside0 (gb392 ≠ gb383) := ⟨h17_⟩
  have n18_ : Aside0 (Below w.heap.size w w16) := ⟨h18_⟩
  clear BK382
  clear BK383
  clear HB
  clear h0_ h1_ h2_ h3_ h4_ h5_ h6_ h7_ h8_ h9_ h10_ h11_ h12_ h13_ h14_ h15_ h16_ h17_ h18_
  have BK382 := n0_
  have BK383 := n1_
  have BK391 := n2_
  have BK392 := n3_
  have GW391 := n4_
  have GE391 := n5_
  have NB382_391 := n6_
  have NB391_382 := n7_
  have NB383_391 := n8_
  have NB391_383 := n9_
  have NB392_391 := n10_
  have NB391_392 := n11_
  have GW392 := n12_
  have GE392 := n13_
  have NB382_392 := n14_
  have NB392_382 := n15_
  have NB383_392 := n16_
  have NB392_383 := n17_
  have HB := n18_
  clear n0_ n1_ n2_ n3_ n4_ n5_ n6_ n7_ n8_ n9_ n10_ n11_ n12_ n13_ n14_ n15_ n16_ n17_ n18_
  have hHeld : w16.cell? ⟨gb382, 0, none⟩ = some (.int .i64 a0_0) ∧ w16.cell? ⟨gb382, 1, none⟩ = some (.int .u32 a0_1) ∧ w16.cell? ⟨gb382, 2, none⟩ = some (.int .u16 a0_2) ∧ w16.cell? ⟨gb383, 0, none⟩ = some (.int .i64 a1_0) ∧ w16.cell? ⟨gb383, 1, none⟩ = some (.int .u32 a1_1) ∧ w16.cell? ⟨gb383, 2, none⟩ = some (.int .u16 a1_2) := hS_
  refine norm_ (a' := ?_) ?_ ?_
  rotate_left
  ·simp only [putAll, Act.put, List.setIfInBounds_toArray, List.set_cons_zero, List.set_cons_succ]
   rfl
  refine one_ (i := 6) (N := none) #[true, true, true, true, true, true, true, false] rfl rfl (one_of HT_.out (by kernel_rfl)) (by decide) (fun K hK => ?_)
  have hs17 : w16.cell? ⟨gb391, 0, none⟩ = some (.int .i64 0) := (blk_cell BK391.out 0).trans rfl
  have hfs17 := blk_frozen BK391.out 0
  have hns17_0 := NB382_391.out
  have hns17_1 := NB383_391.out
  have hns17_3 := NB392_391.out
  have hms17_0 := NB391_382.out
  have hms17_1 := NB391_383.out
  have hms17_3 := NB391_392.out
  have hs18 : w16.cell? ⟨gb391, 1, none⟩ = some (.int .i64 0) := (blk_cell BK391.out 1).trans rfl
  have hfs18 := blk_frozen BK391.out 1
  have hns18_0 := NB382_391.out
  have hns18_1 := NB383_391.out
  have hns18_3 := NB392_391.out
  have hms18_0 := NB391_382.out
  have hms18_1 := NB391_383.out
  have hms18_3 := NB391_392.out
  have hs19 : w16.cell? ⟨gb391, 2, none⟩ = some (.int .i64 0) := (blk_cell BK391.out 2).trans rfl
  have hfs19 := blk_frozen BK391.out 2
  have hns19_0 := NB382_391.out
  have hns19_1 := NB383_391.out
  have hns19_3 := NB392_391.out
  have hms19_0 := NB391_382.out
  have hms19_1 := NB391_383.out
  have hms19_3 := NB391_392.out
  refine skip_ (w1 := ?_) (by rfl) rfl ?_ ?_
  rotate_left
  ·go_simp
   rfl
  refine hK.out _ _ ⟨((cell_far (p := ⟨gb391, _, none⟩) NB382_391.out _).trans (((cell_far (p := ⟨gb391, _, none⟩) NB382_391.out _).trans (((cell_far (p := ⟨gb391, _, none⟩) NB382_391.out _).trans (hHeld.1)))))), ((cell_far (p := ⟨gb391, _, none⟩) NB382_391.out _).trans (((cell_far (p := ⟨gb391, _, none⟩) NB382_391.out _).trans (((cell_far (p := ⟨gb391, _, none⟩) NB382_391.out _).trans (hHeld.2.1)))))), ((cell_far (p := ⟨gb391, _, none⟩) NB382_391.out _).trans (((cell_far (p := ⟨gb391, _, none⟩) NB382_391.out _).trans (((cell_far (p := ⟨gb391, _, none⟩) NB382_391.out _).trans (hHeld.2.2.1)))))), ((cell_far (p := ⟨gb391, _, none⟩) NB383_391.out _).trans (((cell_far (p := ⟨gb391, _, none⟩) NB383_391.out _).trans (((cell_far (p := ⟨gb391, _, none⟩) NB383_391.out _).trans (hHeld.2.2.2.1)))))), ((cell_far (p := ⟨gb391, _, none⟩) NB383_391.out _).trans (((cell_far (p := ⟨gb391, _, none⟩) NB383_391.out _).trans (((cell_far (p := ⟨gb391, _, none⟩) NB383_391.out _).trans (hHeld.2.2.2.2.1)))))), ((cell_far (p := ⟨gb391, _, none⟩) NB383_391.out _).trans (((cell_far (p := ⟨gb391, _, none⟩) NB383_391.out _).trans (((cell_far (p := ⟨gb391, _, none⟩) NB383_391.out _).trans (hHeld.2.2.2.2.2))))))⟩ (fun hHeld => ?_)
  clear hK K
  refine one_ (i := 7) (N := none) #[true, true, true, true, true, true, true, true] rfl rfl (one_of HT_.out (by kernel_rfl)) (by decide) (fun K hK => ?_)
  have hs20 : w16.cell? ⟨gb392, 0, none⟩ = some (.int .i64 0) := (blk_cell BK392.out 0).trans rfl
  have hfs20 := blk_frozen BK392.out 0
  have hns20_0 := NB382_392.out
  have hns20_1 := NB383_392.out
  have hns20_2 := NB391_392.out
  have hms20_0 := NB392_382.out
  have hms20_1 := NB392_383.out
  have hms20_2 := NB392_391.out
  have hs21 : w16.cell? ⟨gb392, 1, none⟩ = some (.int .i64 0) := (blk_cell BK392.out 1).trans rfl
  have hfs21 := blk_frozen BK392.out 1
  have hns21_0 := NB382_392.out
  have hns21_1 := NB383_392.out
  have hns21_2 := NB391_392.out
  have hms21_0 := NB392_382.out
  have hms21_1 := NB392_383.out
  have hms21_2 := NB392_391.out
  have hs22 : w16.cell? ⟨gb392, 2, none⟩ = some (.int .i64 0) := (blk_cell BK392.out 2).trans rfl
  have hfs22 := blk_frozen BK392.out 2
  have hns22_0 := NB382_392.out
  have hns22_1 := NB383_392.out
  have hns22_2 := NB391_392.out
  have hms22_0 := NB392_382.out
  have hms22_1 := NB392_383.out
  have hms22_2 := NB392_391.out
  refine skip_ (w1 := ?_) (by rfl) rfl ?_ ?_
  rotate_left
  ·go_simp
   rfl
  refine hK.out _ _ ⟨((cell_far (p := ⟨gb392, _, none⟩) NB382_392.out _).trans (((cell_far (p := ⟨gb392, _, none⟩) NB382_392.out _).trans (((cell_far (p := ⟨gb392, _, none⟩) NB382_392.out _).trans (hHeld.1)))))), ((cell_far (p := ⟨gb392, _, none⟩) NB382_392.out _).trans (((cell_far (p := ⟨gb392, _, none⟩) NB382_392.out _).trans (((cell_far (p := ⟨gb392, _, none⟩) NB382_392.out _).trans (hHeld.2.1)))))), ((cell_far (p := ⟨gb392, _, none⟩) NB382_392.out _).trans (((cell_far (p := ⟨gb392, _, none⟩) NB382_392.out _).trans (((cell_far (p := ⟨gb392, _, none⟩) NB382_392.out _).trans (hHeld.2.2.1)))))), ((cell_far (p := ⟨gb392, _, none⟩) NB383_392.out _).trans (((cell_far (p := ⟨gb392, _, none⟩) NB383_392.out _).trans (((cell_far (p := ⟨gb392, _, none⟩) NB383_392.out _).trans (hHeld.2.2.2.1)))))), ((cell_far (p := ⟨gb392, _, none⟩) NB383_392.out _).trans (((cell_far (p := ⟨gb392, _, none⟩) NB383_392.out _).trans (((cell_far (p := ⟨gb392, _, none⟩) NB383_392.out _).trans (hHeld.2.2.2.2.1)))))), ((cell_far (p := ⟨gb392, _, none⟩) NB383_392.out _).trans (((cell_far (p := ⟨gb392, _, none⟩) NB383_392.out _).trans (((cell_far (p := ⟨gb392, _, none⟩) NB383_392.out _).trans (hHeld.2.2.2.2.2))))))⟩ (fun hHeld => ?_)
  clear hK K
  refine done_ (done_of HT_.out (by kernel_rfl)) ?_
  have hnb23 := NB391_382.out
  have hnc23 := NB382_391.out
  have hnb24 := NB391_383.out
  have hnc24 := NB383_391.out
  have hnb25 := NB391_392.out
  have hnc25 := NB392_391.out
  have hcz26_0 : w16.cell? ⟨gb391, 0, none⟩ = some (.int .i64 0) := (blk_cell BK391.out 0).trans rfl
  have hcz26_1 : w16.cell? ⟨gb391, 1, none⟩ = some (.int .i64 0) := (blk_cell BK391.out 1).trans rfl
  have hcz26_2 : w16.cell? ⟨gb391, 2, none⟩ = some (.int .i64 0) := (blk_cell BK391.out 2).trans rfl
  have hfz26_0 := blk_frozen BK391.out 0
  have hfz26_1 := blk_frozen BK391.out 1
  have hfz26_2 := blk_frozen BK391.out 2
  have hnb27 := NB392_382.out
  have hnc27 := NB382_392.out
  have hnb28 := NB392_383.out
  have hnc28 := NB383_392.out
  have hcz29_0 : w16.cell? ⟨gb392, 0, none⟩ = some (.int .i64 0) := (blk_cell BK392.out 0).trans rfl
  have hcz29_1 : w16.cell? ⟨gb392, 1, none⟩ = some (.int .i64 0) := (blk_cell BK392.out 1).trans rfl
  have hcz29_2 : w16.cell? ⟨gb392, 2, none⟩ = some (.int .i64 0) := (blk_cell BK392.out 2).trans rfl
  have hfz29_0 := blk_frozen BK392.out 0
  have hfz29_1 := blk_frozen BK392.out 1
  have hfz29_2 := blk_frozen BK392.out 2
  try go_wp2_with (first | ((with_reducible refine gate_callee (f := 12) rfl ?_); refine goesL_ (some 21) rfl rfl Try.func12 (by kernel_rfl) rfl #[.agg #[.int .i64 t385, .int .i64 t386, .int .i64 t387], .agg #[.int .i64 t388, .int .i64 t389, .int .i64 t390]] rfl am_ ?_; (with_reducible refine (warpwrightlaw25_meet.calls k t385 t386 t387 t388 t389 t390 t393 t394 t395 t396 _ A7.out).mono ?_); rintro e w30 ⟨rfl, hb⟩; refine ⟨_, rfl, ?_⟩; have n0_ := Aside0.mk (blk_below (g := gb382) (o := .cells #[.int .i64 a0_0, .int .u32 a0_1, .int .u16 a0_2] 25 (0, 0)) (by (with_reducible repeat (first | refine blk_drewN ?_ _ | refine blk_drew ?_ | refine blk_alloc ?_ _)); refine blk_far ?_ NB382_392.out _; (with_reducible repeat (first | refine blk_drewN ?_ _ | refine blk_drew ?_ | refine blk_alloc ?_ _)); refine blk_far ?_ NB382_392.out _; (with_reducible repeat (first | refine blk_drewN ?_ _ | refine blk_drew ?_ | refine blk_alloc ?_ _)); refine blk_far ?_ NB382_392.out _; (with_reducible repeat (first | refine blk_drewN ?_ _ | refine blk_drew ?_ | refine blk_alloc ?_ _)); refine blk_far ?_ NB382_391.out _; (with_reducible repeat (first | refine blk_drewN ?_ _ | refine blk_drew ?_ | refine blk_alloc ?_ _)); refine blk_far ?_ NB382_391.out _; (with_reducible repeat (first | refine blk_drewN ?_ _ | refine blk_drew ?_ | refine blk_alloc ?_ _)); refine blk_far ?_ NB382_391.out _; (with_reducible repeat (first | refine blk_drewN ?_ _ | refine blk_drew ?_ | refine blk_alloc ?_ _)); exact BK382.out) hb); have n1_ := Aside0.mk (blk_below (g := gb383) (o := .cells #[.int .i64 a1_0, .int .u32 a1_1, .int .u16 a1_2] 25 (0, 0)) (by (with_reducible repeat (first | refine blk_drewN ?_ _ | refine blk_drew ?_ | refine blk_alloc ?_ _)); refine blk_far ?_ NB383_392.out _; (with_reducible repeat (first | refine blk_drewN ?_ _ | refine blk_drew ?_ | refine blk_alloc ?_ _)); refine blk_far ?_ NB383_392.out _; (with_reducible repeat (first | refine blk_drewN ?_ _ | refine blk_drew ?_ | refine blk_alloc ?_ _)); refine blk_far ?_ NB383_392.out _; (with_reducible repeat (first | refine blk_drewN ?_ _ | refine blk_drew ?_ | refine blk_alloc ?_ _)); refine blk_far ?_ NB383_391.out _; (with_reducible repeat (first | refine blk_drewN ?_ _ | refine blk_drew ?_ | refine blk_alloc ?_ _)); refine blk_far ?_ NB383_391.out _; (with_reducible repeat (first | refine blk_drewN ?_ _ | refine blk_drew ?_ | refine blk_alloc ?_ _)); refine blk_far ?_ NB383_391.out _; (with_reducible repeat (first | refine blk_drewN ?_ _ | refine blk_drew ?_ | refine blk_alloc ?_ _)); exact BK383.out) hb); have n2_ := Aside0.mk (blk_below (g := gb391) (o := .cells #[.int .i64 t385, .int .i64 t386, .int .i64 t387] 28 (0, 0)) (by (with_reducible repeat (first | refine blk_drewN ?_ _ | refine blk_drew ?_ | refine blk_alloc ?_ _)); refine blk_far ?_ NB391_392.out _; (with_reducible repeat (first | refine blk_drewN ?_ _ | refine blk_drew ?_ | refine blk_alloc ?_ _)); refine blk_far ?_ NB391_392.out _; (with_reducible repeat (first | refine blk_drewN ?_ _ | refine blk_drew ?_ | refine blk_alloc ?_ _)); refine blk_far ?_ NB391_392.out _; (with_reducible repeat (first | refine blk_drewN ?_ _ | refine blk_drew ?_ | refine blk_alloc ?_ _)); refine blk_put (cs := #[.int .i64 t385, .int .i64 t386, .int .i64 0]) ?_ 2 _ rfl; (with_reducible repeat (first | refine blk_drewN ?_ _ | refine blk_drew ?_ | refine blk_alloc ?_ _)); refine blk_put (cs := #[.int .i64 t385, .int .i64 0, .int .i64 0]) ?_ 1 _ rfl; (with_reducible repeat (first | refine blk_drewN ?_ _ | refine blk_drew ?_ | refine blk_alloc ?_ _)); refine blk_put (cs := #[.int .i64 0, .int .i64 0, .int .i64 0]) ?_ 0 _ rfl; (with_reducible repeat (first | refine blk_drewN ?_ _ | refine blk_drew ?_ | refine blk_alloc ?_ _)); exact BK391.out) hb); have n3_ := Aside0.mk (blk_below (g := gb392) (o := .cells #[.int .i64 t388, .int .i64 t389, .int .i64 t390] 28 (0, 0)) (by (with_reducible repeat (first | refine blk_drewN ?_ _ | refine blk_drew ?_ | refine blk_alloc ?_ _)); refine blk_put (cs := #[.int .i64 t388, .int .i64 t389, .int .i64 0]) ?_ 2 _ rfl; (with_reducible repeat (first | refine blk_drewN ?_ _ | refine blk_drew ?_ | refine blk_alloc ?_ _)); refine blk_put (cs := #[.int .i64 t388, .int .i64 0, .int .i64 0]) ?_ 1 _ rfl; (with_reducible repeat (first | refine blk_drewN ?_ _ | refine blk_drew ?_ | refine blk_alloc ?_ _)); refine blk_put (cs := #[.int .i64 0, .int .i64 0, .int .i64 0]) ?_ 0 _ rfl; (with_reducible repeat (first | refine blk_drewN ?_ _ | refine blk_drew ?_ | refine blk_alloc ?_ _)); refine blk_far ?_ NB392_391.out _; (with_reducible repeat (first | refine blk_drewN ?_ _ | refine blk_drew ?_ | refine blk_alloc ?_ _)); refine blk_far ?_ NB392_391.out _; (with_reducible repeat (first | refine blk_drewN ?_ _ | refine blk_drew ?_ | refine blk_alloc ?_ _)); refine blk_far ?_ NB392_391.out _; (with_reducible repeat (first | refine blk_drewN ?_ _ | refine blk_drew ?_ | refine blk_alloc ?_ _)); exact BK392.out) hb); have n4_ := Aside0.mk (below_step (bl_ HB) hb); clear BK382; clear BK383; clear BK391; clear BK392; clear HB; have BK382 := n0_; have BK383 := n1_; have BK391 := n2_; have BK392 := n3_; have HB := n4_; clear n0_ n1_ n2_ n3_ n4_; (try clear hb); (try clear hb2); (try clear hk); (try clear hi)) | ((with_reducible refine gate_dst (N := 8) rfl ?_); refine box_event ?hg (N := 8) ?hd (cs := #[.int .i64 0, .int .i64 0, .int .i64 0, .bool false]) (t := 31) ?hr ?_; (case hd => rfl); (case hg => rfl); (case hr => first | (go_simp; done) | (go_simp; rfl)); intro gb397 hg w31 hbox hb; have n0_ := Aside0.mk (blk_below (g := gb382) (o := .cells #[.int .i64 a0_0, .int .u32 a0_1, .int .u16 a0_2] 25 (0, 0)) (bk_ BK382) hb); have n1_ := Aside0.mk (blk_below (g := gb383) (o := .cells #[.int .i64 a1_0, .int .u32 a1_1, .int .u16 a1_2] 25 (0, 0)) (bk_ BK383) hb); have n2_ := Aside0.mk (blk_below (g := gb391) (o := .cells #[.int .i64 t385, .int .i64 t386, .int .i64 t387] 28 (0, 0)) (bk_ BK391) hb); have n3_ := Aside0.mk (blk_below (g := gb392) (o := .cells #[.int .i64 t388, .int .i64 t389, .int .i64 t390] 28 (0, 0)) (bk_ BK392) hb); have n4_ := Aside0.mk (below_step (bl_ HB) hb); have n5_ := Aside0.mk (hbox); have n6_ := Aside0.mk ((by rw [hg]; exact (below_size (bl_ HB)) : w.heap.size ≤ gb397)); have n7_ := Aside0.mk ((by rw [hg]; exact (below_size (bl_ HB)) : w.heap.size ≤ gb397)); have n8_ := Aside0.mk ((by rw [hg]; exact Nat.ne_of_lt (blk_lt (g := gb382) (o := .cells #[.int .i64 a0_0, .int .u32 a0_1, .int .u16 a0_2] 25 (0, 0)) (bk_ BK382)) : gb382 ≠ gb397)); have n9_ := Aside0.mk ((by rw [hg]; exact Nat.ne_of_gt (blk_lt (g := gb382) (o := .cells #[.int .i64 a0_0, .int .u32 a0_1, .int .u16 a0_2] 25 (0, 0)) (bk_ BK382)) : gb397 ≠ gb382)); have n10_ := Aside0.mk ((by rw [hg]; exact Nat.ne_of_lt (blk_lt (g := gb383) (o := .cells #[.int .i64 a1_0, .int .u32 a1_1, .int .u16 a1_2] 25 (0, 0)) (bk_ BK383)) : gb383 ≠ gb397)); have n11_ := Aside0.mk ((by rw [hg]; exact Nat.ne_of_gt (blk_lt (g := gb383) (o := .cells #[.int .i64 a1_0, .int .u32 a1_1, .int .u16 a1_2] 25 (0, 0)) (bk_ BK383)) : gb397 ≠ gb383)); have n12_ := Aside0.mk ((by rw [hg]; exact Nat.ne_of_lt (blk_lt (g := gb391) (o := .cells #[.int .i64 t385, .int .i64 t386, .int .i64 t387] 28 (0, 0)) (bk_ BK391)) : gb391 ≠ gb397)); have n13_ := Aside0.mk ((by rw [hg]; exact Nat.ne_of_gt (blk_lt (g := gb391) (o := .cells #[.int .i64 t385, .int .i64 t386, .int .i64 t387] 28 (0, 0)) (bk_ BK391)) : gb397 ≠ gb391)); have n14_ := Aside0.mk ((by rw [hg]; exact Nat.ne_of_lt (blk_lt (g := gb392) (o := .cells #[.int .i64 t388, .int .i64 t389, .int .i64 t390] 28 (0, 0)) (bk_ BK392)) : gb392 ≠ gb397)); have n15_ := Aside0.mk ((by rw [hg]; exact Nat.ne_of_gt (blk_lt (g := gb392) (o := .cells #[.int .i64 t388, .int .i64 t389, .int .i64 t390] 28 (0, 0)) (bk_ BK392)) : gb397 ≠ gb392)); clear BK382; clear BK383; clear BK391; clear BK392; clear HB; have BK382 := n0_; have BK383 := n1_; have BK391 := n2_; have BK392 := n3_; have HB := n4_; have BK397 := n5_; have GW397 := n6_; have GE397 := n7_; have NB382_397 := n8_; have NB397_382 := n9_; have NB383_397 := n10_; have NB397_383 := n11_; have NB391_397 := n12_; have NB397_391 := n13_; have NB392_397 := n14_; have NB397_392 := n15_; clear n0_ n1_ n2_ n3_ n4_ n5_ n6_ n7_ n8_ n9_ n10_ n11_ n12_ n13_ n14_ n15_; clear hb hbox hg; have hnb32 := NB397_382.out; have hnc32 := NB382_397.out; have hnb33 := NB397_383.out; have hnc33 := NB383_397.out; have hnb34 := NB397_391.out; have hnc34 := NB391_397.out; have hnb35 := NB397_392.out; have hnc35 := NB392_397.out; have hcz36_0 : w31.cell? ⟨gb397, 0, none⟩ = some (.int .i64 0) := (blk_cell BK397.out 0).trans rfl; have hcz36_1 : w31.cell? ⟨gb397, 1, none⟩ = some (.int .i64 0) := (blk_cell BK397.out 1).trans rfl; have hcz36_2 : w31.cell? ⟨gb397, 2, none⟩ = some (.int .i64 0) := (blk_cell BK397.out 2).trans rfl; have hcz36_3 : w31.cell? ⟨gb397, 3, none⟩ = some (.bool false) := (blk_cell BK397.out 3).trans rfl; have hfz36_0 := blk_frozen BK397.out 0; have hfz36_1 := blk_frozen BK397.out 1; have hfz36_2 := blk_frozen BK397.out 2; have hfz36_3 := blk_frozen BK397.out 3))
  go_loopg [9, 10] k (fun kq v9 v10 w' => ∃ (x9_1 : Int) (x10_1 : Int), v9 = .int .i64 x9_1 ∧ v10 = .int .i64 x10_1 ∧ Aside0 (warpwrightlaw25_SpanMeets.l0 kq true x9_1 x10_1 t385 t386 t387 t388 t389 t390 t393 t394 t395 t396 = some r) ∧ Aside0 (kq ≤ k) ∧ Aside0 (w'.heap[gb382]? = some (.cells #[.int .i64 a0_0, .int .u32 a0_1, .int .u16 a0_2] 25 (0, 0))) ∧ Aside0 (w'.heap[gb383]? = some (.cells #[.int .i64 a1_0, .int .u32 a1_1, .int .u16 a1_2] 25 (0, 0))) ∧ Aside0 (w'.heap[gb391]? = some (.cells #[.int .i64 t385, .int .i64 t386, .int .i64 t387] 28 (0, 0))) ∧ Aside0 (w'.heap[gb392]? = some (.cells #[.int .i64 t388, .int .i64 t389, .int .i64 t390] 28 (0, 0))) ∧ Aside0 (w'.heap[gb397]? = some (.cells #[.int .i64 t393, .int .i64 t394, .int .i64 t395, .bool t396] 31 (0, 0))) ∧ Aside0 (Below w.heap.size w w'))
  case atStart => exact ⟨(0), ((-50)), (by first | rfl | (simp; done) | (simp [*]; done)), (by first | rfl | (simp; done) | (simp [*]; done)), H', ⟨Nat.le_refl _⟩, ⟨by (with_reducible repeat (first | refine blk_drewN ?_ _ | refine blk_drew ?_ | refine blk_alloc ?_ _)); refine blk_far ?_ NB382_397.out _; (with_reducible repeat (first | refine blk_drewN ?_ _ | refine blk_drew ?_ | refine blk_alloc ?_ _)); refine blk_far ?_ NB382_397.out _; (with_reducible repeat (first | refine blk_drewN ?_ _ | refine blk_drew ?_ | refine blk_alloc ?_ _)); refine blk_far ?_ NB382_397.out _; (with_reducible repeat (first | refine blk_drewN ?_ _ | refine blk_drew ?_ | refine blk_alloc ?_ _)); refine blk_far ?_ NB382_397.out _; (with_reducible repeat (first | refine blk_drewN ?_ _ | refine blk_drew ?_ | refine blk_alloc ?_ _)); exact BK382.out⟩, ⟨by (with_reducible repeat (first | refine blk_drewN ?_ _ | refine blk_drew ?_ | refine blk_alloc ?_ _)); refine blk_far ?_ NB383_397.out _; (with_reducible repeat (first | refine blk_drewN ?_ _ | refine blk_drew ?_ | refine blk_alloc ?_ _)); refine blk_far ?_ NB383_397.out _; (with_reducible repeat (first | refine blk_drewN ?_ _ | refine blk_drew ?_ | refine blk_alloc ?_ _)); refine blk_far ?_ NB383_397.out _; (with_reducible repeat (first | refine blk_drewN ?_ _ | refine blk_drew ?_ | refine blk_alloc ?_ _)); refine blk_far ?_ NB383_397.out _; (with_reducible repeat (first | refine blk_drewN ?_ _ | refine blk_drew ?_ | refine blk_alloc ?_ _)); exact BK383.out⟩, ⟨by (with_reducible repeat (first | refine blk_drewN ?_ _ | refine blk_drew ?_ | refine blk_alloc ?_ _)); refine blk_far ?_ NB391_397.out _; (with_reducible repeat (first | refine blk_drewN ?_ _ | refine blk_drew ?_ | refine blk_alloc ?_ _)); refine blk_far ?_ NB391_397.out _; (with_reducible repeat (first | refine blk_drewN ?_ _ | refine blk_drew ?_ | refine blk_alloc ?_ _)); refine blk_far ?_ NB391_397.out _; (with_reducible repeat (first | refine blk_drewN ?_ _ | refine blk_drew ?_ | refine blk_alloc ?_ _)); refine blk_far ?_ NB391_397.out _; (with_reducible repeat (first | refine blk_drewN ?_ _ | refine blk_drew ?_ | refine blk_alloc ?_ _)); exact BK391.out⟩, ⟨by (with_reducible repeat (first | refine blk_drewN ?_ _ | refine blk_drew ?_ | refine blk_alloc ?_ _)); refine blk_far ?_ NB392_397.out _; (with_reducible repeat (first | refine blk_drewN ?_ _ | refine blk_drew ?_ | refine blk_alloc ?_ _)); refine blk_far ?_ NB392_397.out _; (with_reducible repeat (first | refine blk_drewN ?_ _ | refine blk_drew ?_ | refine blk_alloc ?_ _)); refine blk_far ?_ NB392_397.out _; (with_reducible repeat (first | refine blk_drewN ?_ _ | refine blk_drew ?_ | refine blk_alloc ?_ _)); refine blk_far ?_ NB392_397.out _; (with_reducible repeat (first | refine blk_drewN ?_ _ | refine blk_drew ?_ | refine blk_alloc ?_ _)); exact BK392.out⟩, ⟨by (with_reducible repeat (first | refine blk_drewN ?_ _ | refine blk_drew ?_ | refine blk_alloc ?_ _)); refine blk_put (cs := #[.int .i64 t393, .int .i64 t394, .int .i64 t395, .bool false]) ?_ 3 _ rfl; (with_reducible repeat (first | refine blk_drewN ?_ _ | refine blk_drew ?_ | refine blk_alloc ?_ _)); refine blk_put (cs := #[.int .i64 t393, .int .i64 t394, .int .i64 0, .bool false]) ?_ 2 _ rfl; (with_reducible repeat (first | refine blk_drewN ?_ _ | refine blk_drew ?_ | refine blk_alloc ?_ _)); refine blk_put (cs := #[.int .i64 t393, .int .i64 0, .int .i64 0, .bool false]) ?_ 1 _ rfl; (with_reducible repeat (first | refine blk_drewN ?_ _ | refine blk_drew ?_ | refine blk_alloc ?_ _)); refine blk_put (cs := #[.int .i64 0, .int .i64 0, .int .i64 0, .bool false]) ?_ 0 _ rfl; (with_reducible repeat (first | refine blk_drewN ?_ _ | refine blk_drew ?_ | refine blk_alloc ?_ _)); exact BK397.out⟩, ⟨by repeat (first | (with_reducible first | exact HB.out | apply below_alloc | apply pw_below_drewN | apply below_drew1 | refine below_set ?_ GE382.out | refine below_set ?_ GE383.out | refine below_set ?_ GE391.out | refine below_set ?_ GE392.out | refine below_set ?_ GE397.out) | exact HB.out)⟩⟩
  case round =>
   clear H'
   try clear c1
   try clear c2
   try clear p2
   try clear c3
   try clear c11
   try clear c12
   try clear c23
   try clear c24
   try clear c25
   try clear c27
   try clear c28
   try clear c32
   try clear c33
   try clear c34
   try clear c35
   try clear hcz26_0
   try clear hcz26_1
   try clear hcz26_2
   try clear hcz29_0
   try clear hcz29_1
   try clear hcz29_2
   try clear hcz36_0
   try clear hcz36_1
   try clear hcz36_2
   try clear hcz36_3
   try clear hfz26_0
   try clear hfz26_1
   try clear hfz26_2
   try clear hfz29_0
   try clear hfz29_1
   try clear hfz29_2
   try clear hfz36_0
   try clear hfz36_1
   try clear hfz36_2
   try clear hfz36_3
   obtain ⟨x9_1, x10_1, rfl, rfl, HA, HK1, BK382, BK383, BK391, BK392, BK397, HB⟩ := hrel
   cases gk with
   | zero => exact absurd HA.out (by simp [warpwrightlaw25_SpanMeets.l0])
   | succ k1 =>
    have H := HA.out
    clear HA
    simp only [warpwrightlaw25_SpanMeets.l0] at H
    by_cases c37 : x10_1 ≤ 200
    ·rw [if_pos c37] at H
     have c37b0 : decide (x10_1 ≤ 200) = true := decide_eq_true c37
     clear c37
     replace H := Option.bind_eq_some_iff.mp H
     obtain ⟨t398, A380, H⟩ := H
     replace H : (if t398 = true then ((span_Has.f t388 t389 t390 x10_1).bind fun t399 => (if t396 = true then ((span_Has.f t393 t394 t395 x10_1).bind fun t400 => (if (t399 != t400) = true then (none) else (if t399 = true then (warpwrightlaw25_SpanMeets.l0 k1 true (wrap64 (x9_1 + 1)) (wrap64 (x10_1 + 1)) t385 t386 t387 t388 t389 t390 t393 t394 t395 t396) else (warpwrightlaw25_SpanMeets.l0 k1 true x9_1 (wrap64 (x10_1 + 1)) t385 t386 t387 t388 t389 t390 t393 t394 t395 t396)))) else (if (t399 != false) = true then (none) else (if t399 = true then (warpwrightlaw25_SpanMeets.l0 k1 true (wrap64 (x9_1 + 1)) (wrap64 (x10_1 + 1)) t385 t386 t387 t388 t389 t390 t393 t394 t395 t396) else (warpwrightlaw25_SpanMeets.l0 k1 true x9_1 (wrap64 (x10_1 + 1)) t385 t386 t387 t388 t389 t390 t393 t394 t395 t396))))) else (if t396 = true then ((span_Has.f t393 t394 t395 x10_1).bind fun t401 => (if (false != t401) = true then (none) else (warpwrightlaw25_SpanMeets.l0 k1 true x9_1 (wrap64 (x10_1 + 1)) t385 t386 t387 t388 t389 t390 t393 t394 t395 t396))) else (if (false != false) = true then (none) else (warpwrightlaw25_SpanMeets.l0 k1 true x9_1 (wrap64 (x10_1 + 1)) t385 t386 t387 t388 t389 t390 t393 t394 t395 t396)))) = some r := H
     have A38 := Aside0.mk A380
     clear A380
     by_cases c39 : t398 = true
     ·subst c39
      have H1 : ((span_Has.f t388 t389 t390 x10_1).bind fun t399 => (if t396 = true then ((span_Has.f t393 t394 t395 x10_1).bind fun t400 => (if (t399 != t400) = true then (none) else (if t399 = true then (warpwrightlaw25_SpanMeets.l0 k1 true (wrap64 (x9_1 + 1)) (wrap64 (x10_1 + 1)) t385 t386 t387 t388 t389 t390 t393 t394 t395 t396) else (warpwrightlaw25_SpanMeets.l0 k1 true x9_1 (wrap64 (x10_1 + 1)) t385 t386 t387 t388 t389 t390 t393 t394 t395 t396)))) else (if (t399 != false) = true then (none) else (if t399 = true then (warpwrightlaw25_SpanMeets.l0 k1 true (wrap64 (x9_1 + 1)) (wrap64 (x10_1 + 1)) t385 t386 t387 t388 t389 t390 t393 t394 t395 t396) else (warpwrightlaw25_SpanMeets.l0 k1 true x9_1 (wrap64 (x10_1 + 1)) t385 t386 t387 t388 t389 t390 t393 t394 t395 t396))))) = some r := by rw [if_pos rfl] at H; exact H
      clear H
      have H := H1
      clear H1
      replace H := Option.bind_eq_some_iff.mp H
      obtain ⟨t399, A400, H⟩ := H
      replace H : (if t396 = true then ((span_Has.f t393 t394 t395 x10_1).bind fun t400 => (if (t399 != t400) = true then (none) else (if t399 = true then (warpwrightlaw25_SpanMeets.l0 k1 true (wrap64 (x9_1 + 1)) (wrap64 (x10_1 + 1)) t385 t386 t387 t388 t389 t390 t393 t394 t395 t396) else (warpwrightlaw25_SpanMeets.l0 k1 true x9_1 (wrap64 (x10_1 + 1)) t385 t386 t387 t388 t389 t390 t393 t394 t395 t396)))) else (if (t399 != false) = true then (none) else (if t399 = true then (warpwrightlaw25_SpanMeets.l0 k1 true (wrap64 (x9_1 + 1)) (wrap64 (x10_1 + 1)) t385 t386 t387 t388 t389 t390 t393 t394 t395 t396) else (warpwrightlaw25_SpanMeets.l0 k1 true x9_1 (wrap64 (x10_1 + 1)) t385 t386 t387 t388 t389 t390 t393 t394 t395 t396)))) = some r := H
      have A40 := Aside0.mk A400
      clear A400
      by_cases c41 : t396 = true
      ·subst c41
       have H1 : ((span_Has.f t393 t394 t395 x10_1).bind fun t400 => (if (t399 != t400) = true then (none) else (if t399 = true then (warpwrightlaw25_SpanMeets.l0 k1 true (wrap64 (x9_1 + 1)) (wrap64 (x10_1 + 1)) t385 t386 t387 t388 t389 t390 t393 t394 t395 true) else (warpwrightlaw25_SpanMeets.l0 k1 true x9_1 (wrap64 (x10_1 + 1)) t385 t386 t387 t388 t389 t390 t393 t394 t395 true)))) = some r := by rw [if_pos rfl] at H; exact H
       clear H
       have H := H1
       clear H1
       replace H := Option.bind_eq_some_iff.mp H
       obtain ⟨t400, A420, H⟩ := H
       replace H : (if (t399 != t400) = true then (none) else (if t399 = true then (warpwrightlaw25_SpanMeets.l0 k1 true (wrap64 (x9_1 + 1)) (wrap64 (x10_1 + 1)) t385 t386 t387 t388 t389 t390 t393 t394 t395 true) else (warpwrightlaw25_SpanMeets.l0 k1 true x9_1 (wrap64 (x10_1 + 1)) t385 t386 t387 t388 t389 t390 t393 t394 t395 true))) = some r := H
       have A42 := Aside0.mk A420
       clear A420
       by_cases c43 : (t399 != t400) = true
       ·rw [if_pos c43] at H
        exact absurd H (by simp)
       ·rw [if_neg c43] at H
        have c43b0 : (t399 != t400) = false := by first | (simp; done) | simpa using c43
        (try (have c43b1 : decide (t399 = t400) = true := by first | (simp; done) | simpa using c43))
        (try (have c43b2 : (t399 == t400) = true := by first | (simp; done) | simpa using c43))
        clear c43
        by_cases c44 : t399 = true
        ·subst c44
         have H1 : (warpwrightlaw25_SpanMeets.l0 k1 true (wrap64 (x9_1 + 1)) (wrap64 (x10_1 + 1)) t385 t386 t387 t388 t389 t390 t393 t394 t395 true) = some r := by rw [if_pos rfl] at H; exact H
         clear H
         have H := H1
         clear H1
         have H' := Aside0.mk H
         clear H
         have hnb45 := NB391_382.out
         have hnc45 := NB382_391.out
         have hnb46 := NB391_383.out
         have hnc46 := NB383_391.out
         have hnb47 := NB391_392.out
         have hnc47 := NB392_391.out
         have hnb48 := NB391_397.out
         have hnc48 := NB397_391.out
         have hcz49_0 : wr.cell? ⟨gb391, 0, none⟩ = some (.int .i64 t385) := (blk_cell BK391.out 0).trans rfl
         have hcz49_1 : wr.cell? ⟨gb391, 1, none⟩ = some (.int .i64 t386) := (blk_cell BK391.out 1).trans rfl
         have hcz49_2 : wr.cell? ⟨gb391, 2, none⟩ = some (.int .i64 t387) := (blk_cell BK391.out 2).trans rfl
         have hfz49_0 := blk_frozen BK391.out 0
         have hfz49_1 := blk_frozen BK391.out 1
         have hfz49_2 := blk_frozen BK391.out 2
         go_wp2_with (first | ((with_reducible refine gate_callee (f := 13) rfl ?_); refine goesL_ (some 28) rfl rfl Try.func13 (by kernel_rfl) rfl #[.agg #[.int .i64 t385, .int .i64 t386, .int .i64 t387], .int .i64 x10_1] rfl am_ ?_; (with_reducible refine (span_Has.calls t385 t386 t387 x10_1 true _ A38.out).mono ?_); rintro e w50 ⟨rfl, hb⟩; refine ⟨_, rfl, ?_⟩; have n0_ := Aside0.mk (blk_below (g := gb382) (o := .cells #[.int .i64 a0_0, .int .u32 a0_1, .int .u16 a0_2] 25 (0, 0)) (bk_ BK382) hb); have n1_ := Aside0.mk (blk_below (g := gb383) (o := .cells #[.int .i64 a1_0, .int .u32 a1_1, .int .u16 a1_2] 25 (0, 0)) (bk_ BK383) hb); have n2_ := Aside0.mk (blk_below (g := gb391) (o := .cells #[.int .i64 t385, .int .i64 t386, .int .i64 t387] 28 (0, 0)) (bk_ BK391) hb); have n3_ := Aside0.mk (blk_below (g := gb392) (o := .cells #[.int .i64 t388, .int .i64 t389, .int .i64 t390] 28 (0, 0)) (bk_ BK392) hb); have n4_ := Aside0.mk (blk_below (g := gb397) (o := .cells #[.int .i64 t393, .int .i64 t394, .int .i64 t395, .bool true] 31 (0, 0)) (bk_ BK397) hb); have n5_ := Aside0.mk (below_step (bl_ HB) hb); clear BK382; clear BK383; clear BK391; clear BK392; clear BK397; clear HB; have BK382 := n0_; have BK383 := n1_; have BK391 := n2_; have BK392 := n3_; have BK397 := n4_; have HB := n5_; clear n0_ n1_ n2_ n3_ n4_ n5_; (try clear hb); (try clear hb2); (try clear hk); (try clear hi); have hnb51 := NB392_382.out; have hnc51 := NB382_392.out; have hnb52 := NB392_383.out; have hnc52 := NB383_392.out; have hnb53 := NB392_397.out; have hnc53 := NB397_392.out; have hcz54_0 : w50.cell? ⟨gb392, 0, none⟩ = some (.int .i64 t388) := (blk_cell BK392.out 0).trans rfl; have hcz54_1 : w50.cell? ⟨gb392, 1, none⟩ = some (.int .i64 t389) := (blk_cell BK392.out 1).trans rfl; have hcz54_2 : w50.cell? ⟨gb392, 2, none⟩ = some (.int .i64 t390) := (blk_cell BK392.out 2).trans rfl; have hfz54_0 := blk_frozen BK392.out 0; have hfz54_1 := blk_frozen BK392.out 1; have hfz54_2 := blk_frozen BK392.out 2) | (go_at_call 13; (with_reducible refine (span_Has.calls t388 t389 t390 x10_1 true _ A40.out).mono ?_); rintro e w55 ⟨rfl, hb⟩; have n0_ := Aside0.mk (blk_below (g := gb382) (o := .cells #[.int .i64 a0_0, .int .u32 a0_1, .int .u16 a0_2] 25 (0, 0)) (bk_ BK382) hb); have n1_ := Aside0.mk (blk_below (g := gb383) (o := .cells #[.int .i64 a1_0, .int .u32 a1_1, .int .u16 a1_2] 25 (0, 0)) (bk_ BK383) hb); have n2_ := Aside0.mk (blk_below (g := gb391) (o := .cells #[.int .i64 t385, .int .i64 t386, .int .i64 t387] 28 (0, 0)) (bk_ BK391) hb); have n3_ := Aside0.mk (blk_below (g := gb392) (o := .cells #[.int .i64 t388, .int .i64 t389, .int .i64 t390] 28 (0, 0)) (bk_ BK392) hb); have n4_ := Aside0.mk (blk_below (g := gb397) (o := .cells #[.int .i64 t393, .int .i64 t394, .int .i64 t395, .bool true] 31 (0, 0)) (bk_ BK397) hb); have n5_ := Aside0.mk (below_step (bl_ HB) hb); clear BK382; clear BK383; clear BK391; clear BK392; clear BK397; clear HB; have BK382 := n0_; have BK383 := n1_; have BK391 := n2_; have BK392 := n3_; have BK397 := n4_; have HB := n5_; clear n0_ n1_ n2_ n3_ n4_ n5_; (try clear hb); (try clear hb2); (try clear hk); (try clear hi); have hnb56 := NB397_382.out; have hnc56 := NB382_397.out; have hnb57 := NB397_383.out; have hnc57 := NB383_397.out; have hcz58_0 : w55.cell? ⟨gb397, 0, none⟩ = some (.int .i64 t393) := (blk_cell BK397.out 0).trans rfl; have hcz58_1 : w55.cell? ⟨gb397, 1, none⟩ = some (.int .i64 t394) := (blk_cell BK397.out 1).trans rfl; have hcz58_2 : w55.cell? ⟨gb397, 2, none⟩ = some (.int .i64 t395) := (blk_cell BK397.out 2).trans rfl; have hcz58_3 : w55.cell? ⟨gb397, 3, none⟩ = some (.bool true) := (blk_cell BK397.out 3).trans rfl; have hfz58_0 := blk_frozen BK397.out 0; have hfz58_1 := blk_frozen BK397.out 1; have hfz58_2 := blk_frozen BK397.out 2; have hfz58_3 := blk_frozen BK397.out 3) | (go_at_call 13; (with_reducible refine (span_Has.calls t393 t394 t395 x10_1 t400 _ A42.out).mono ?_); rintro e w59 ⟨rfl, hb⟩; have n0_ := Aside0.mk (blk_below (g := gb382) (o := .cells #[.int .i64 a0_0, .int .u32 a0_1, .int .u16 a0_2] 25 (0, 0)) (bk_ BK382) hb); have n1_ := Aside0.mk (blk_below (g := gb383) (o := .cells #[.int .i64 a1_0, .int .u32 a1_1, .int .u16 a1_2] 25 (0, 0)) (bk_ BK383) hb); have n2_ := Aside0.mk (blk_below (g := gb391) (o := .cells #[.int .i64 t385, .int .i64 t386, .int .i64 t387] 28 (0, 0)) (bk_ BK391) hb); have n3_ := Aside0.mk (blk_below (g := gb392) (o := .cells #[.int .i64 t388, .int .i64 t389, .int .i64 t390] 28 (0, 0)) (bk_ BK392) hb); have n4_ := Aside0.mk (blk_below (g := gb397) (o := .cells #[.int .i64 t393, .int .i64 t394, .int .i64 t395, .bool true] 31 (0, 0)) (bk_ BK397) hb); have n5_ := Aside0.mk (below_step (bl_ HB) hb); clear BK382; clear BK383; clear BK391; clear BK392; clear BK397; clear HB; have BK382 := n0_; have BK383 := n1_; have BK391 := n2_; have BK392 := n3_; have BK397 := n4_; have HB := n5_; clear n0_ n1_ n2_ n3_ n4_ n5_; (try clear hb); (try clear hb2); (try clear hk); (try clear hi)))
         go_roundg k1
         case measure => have := HK1.out; omega
         case rel => exact ⟨(wrap64 (x9_1 + 1)), (wrap64 (x10_1 + 1)), (by first | rfl | (simp; done) | (simp [*]; done)), (by first | rfl | (simp; done) | (simp [*]; done)), H', ⟨by have := HK1.out; omega⟩, ⟨by (with_reducible repeat (first | refine blk_drewN ?_ _ | refine blk_drew ?_ | refine blk_alloc ?_ _)); exact BK382.out⟩, ⟨by (with_reducible repeat (first | refine blk_drewN ?_ _ | refine blk_drew ?_ | refine blk_alloc ?_ _)); exact BK383.out⟩, ⟨by (with_reducible repeat (first | refine blk_drewN ?_ _ | refine blk_drew ?_ | refine blk_alloc ?_ _)); exact BK391.out⟩, ⟨by (with_reducible repeat (first | refine blk_drewN ?_ _ | refine blk_drew ?_ | refine blk_alloc ?_ _)); exact BK392.out⟩, ⟨by (with_reducible repeat (first | refine blk_drewN ?_ _ | refine blk_drew ?_ | refine blk_alloc ?_ _)); exact BK397.out⟩, ⟨by repeat (first | (with_reducible first | exact HB.out | apply below_alloc | apply pw_below_drewN | apply below_drew1 | refine below_set ?_ GE382.out | refine below_set ?_ GE383.out | refine below_set ?_ GE391.out | refine below_set ?_ GE392.out | refine below_set ?_ GE397.out) | exact HB.out)⟩⟩
        ·replace c44 := Bool.eq_false_iff.mpr c44
         subst c44
         have H1 : (warpwrightlaw25_SpanMeets.l0 k1 true x9_1 (wrap64 (x10_1 + 1)) t385 t386 t387 t388 t389 t390 t393 t394 t395 true) = some r := by rw [if_neg (show ¬ (false = true) by decide)] at H; exact H
         clear H
         have H := H1
         clear H1
         have H' := Aside0.mk H
         clear H
         have hnb60 := NB391_382.out
         have hnc60 := NB382_391.out
         have hnb61 := NB391_383.out
         have hnc61 := NB383_391.out
         have hnb62 := NB391_392.out
         have hnc62 := NB392_391.out
         have hnb63 := NB391_397.out
         have hnc63 := NB397_391.out
         have hcz64_0 : wr.cell? ⟨gb391, 0, none⟩ = some (.int .i64 t385) := (blk_cell BK391.out 0).trans rfl
         have hcz64_1 : wr.cell? ⟨gb391, 1, none⟩ = some (.int .i64 t386) := (blk_cell BK391.out 1).trans rfl
         have hcz64_2 : wr.cell? ⟨gb391, 2, none⟩ = some (.int .i64 t387) := (blk_cell BK391.out 2).trans rfl
         have hfz64_0 := blk_frozen BK391.out 0
         have hfz64_1 := blk_frozen BK391.out 1
         have hfz64_2 := blk_frozen BK391.out 2
         go_wp2_with (first | ((with_reducible refine gate_callee (f := 13) rfl ?_); refine goesL_ (some 28) rfl rfl Try.func13 (by kernel_rfl) rfl #[.agg #[.int .i64 t385, .int .i64 t386, .int .i64 t387], .int .i64 x10_1] rfl am_ ?_; (with_reducible refine (span_Has.calls t385 t386 t387 x10_1 true _ A38.out).mono ?_); rintro e w65 ⟨rfl, hb⟩; refine ⟨_, rfl, ?_⟩; have n0_ := Aside0.mk (blk_below (g := gb382) (o := .cells #[.int .i64 a0_0, .int .u32 a0_1, .int .u16 a0_2] 25 (0, 0)) (bk_ BK382) hb); have n1_ := Aside0.mk (blk_below (g := gb383) (o := .cells #[.int .i64 a1_0, .int .u32 a1_1, .int .u16 a1_2] 25 (0, 0)) (bk_ BK383) hb); have n2_ := Aside0.mk (blk_below (g := gb391) (o := .cells #[.int .i64 t385, .int .i64 t386, .int .i64 t387] 28 (0, 0)) (bk_ BK391) hb); have n3_ := Aside0.mk (blk_below (g := gb392) (o := .cells #[.int .i64 t388, .int .i64 t389, .int .i64 t390] 28 (0, 0)) (bk_ BK392) hb); have n4_ := Aside0.mk (blk_below (g := gb397) (o := .cells #[.int .i64 t393, .int .i64 t394, .int .i64 t395, .bool true] 31 (0, 0)) (bk_ BK397) hb); have n5_ := Aside0.mk (below_step (bl_ HB) hb); clear BK382; clear BK383; clear BK391; clear BK392; clear BK397; clear HB; have BK382 := n0_; have BK383 := n1_; have BK391 := n2_; have BK392 := n3_; have BK397 := n4_; have HB := n5_; clear n0_ n1_ n2_ n3_ n4_ n5_; (try clear hb); (try clear hb2); (try clear hk); (try clear hi); have hnb66 := NB392_382.out; have hnc66 := NB382_392.out; have hnb67 := NB392_383.out; have hnc67 := NB383_392.out; have hnb68 := NB392_397.out; have hnc68 := NB397_392.out; have hcz69_0 : w65.cell? ⟨gb392, 0, none⟩ = some (.int .i64 t388) := (blk_cell BK392.out 0).trans rfl; have hcz69_1 : w65.cell? ⟨gb392, 1, none⟩ = some (.int .i64 t389) := (blk_cell BK392.out 1).trans rfl; have hcz69_2 : w65.cell? ⟨gb392, 2, none⟩ = some (.int .i64 t390) := (blk_cell BK392.out 2).trans rfl; have hfz69_0 := blk_frozen BK392.out 0; have hfz69_1 := blk_frozen BK392.out 1; have hfz69_2 := blk_frozen BK392.out 2) | (go_at_call 13; (with_reducible refine (span_Has.calls t388 t389 t390 x10_1 false _ A40.out).mono ?_); rintro e w70 ⟨rfl, hb⟩; have n0_ := Aside0.mk (blk_below (g := gb382) (o := .cells #[.int .i64 a0_0, .int .u32 a0_1, .int .u16 a0_2] 25 (0, 0)) (bk_ BK382) hb); have n1_ := Aside0.mk (blk_below (g := gb383) (o := .cells #[.int .i64 a1_0, .int .u32 a1_1, .int .u16 a1_2] 25 (0, 0)) (bk_ BK383) hb); have n2_ := Aside0.mk (blk_below (g := gb391) (o := .cells #[.int .i64 t385, .int .i64 t386, .int .i64 t387] 28 (0, 0)) (bk_ BK391) hb); have n3_ := Aside0.mk (blk_below (g := gb392) (o := .cells #[.int .i64 t388, .int .i64 t389, .int .i64 t390] 28 (0, 0)) (bk_ BK392) hb); have n4_ := Aside0.mk (blk_below (g := gb397) (o := .cells #[.int .i64 t393, .int .i64 t394, .int .i64 t395, .bool true] 31 (0, 0)) (bk_ BK397) hb); have n5_ := Aside0.mk (below_step (bl_ HB) hb); clear BK382; clear BK383; clear BK391; clear BK392; clear BK397; clear HB; have BK382 := n0_; have BK383 := n1_; have BK391 := n2_; have BK392 := n3_; have BK397 := n4_; have HB := n5_; clear n0_ n1_ n2_ n3_ n4_ n5_; (try clear hb); (try clear hb2); (try clear hk); (try clear hi); have hnb71 := NB397_382.out; have hnc71 := NB382_397.out; have hnb72 := NB397_383.out; have hnc72 := NB383_397.out; have hcz73_0 : w70.cell? ⟨gb397, 0, none⟩ = some (.int .i64 t393) := (blk_cell BK397.out 0).trans rfl; have hcz73_1 : w70.cell? ⟨gb397, 1, none⟩ = some (.int .i64 t394) := (blk_cell BK397.out 1).trans rfl; have hcz73_2 : w70.cell? ⟨gb397, 2, none⟩ = some (.int .i64 t395) := (blk_cell BK397.out 2).trans rfl; have hcz73_3 : w70.cell? ⟨gb397, 3, none⟩ = some (.bool true) := (blk_cell BK397.out 3).trans rfl; have hfz73_0 := blk_frozen BK397.out 0; have hfz73_1 := blk_frozen BK397.out 1; have hfz73_2 := blk_frozen BK397.out 2; have hfz73_3 := blk_frozen BK397.out 3) | (go_at_call 13; (with_reducible refine (span_Has.calls t393 t394 t395 x10_1 t400 _ A42.out).mono ?_); rintro e w74 ⟨rfl, hb⟩; have n0_ := Aside0.mk (blk_below (g := gb382) (o := .cells #[.int .i64 a0_0, .int .u32 a0_1, .int .u16 a0_2] 25 (0, 0)) (bk_ BK382) hb); have n1_ := Aside0.mk (blk_below (g := gb383) (o := .cells #[.int .i64 a1_0, .int .u32 a1_1, .int .u16 a1_2] 25 (0, 0)) (bk_ BK383) hb); have n2_ := Aside0.mk (blk_below (g := gb391) (o := .cells #[.int .i64 t385, .int .i64 t386, .int .i64 t387] 28 (0, 0)) (bk_ BK391) hb); have n3_ := Aside0.mk (blk_below (g := gb392) (o := .cells #[.int .i64 t388, .int .i64 t389, .int .i64 t390] 28 (0, 0)) (bk_ BK392) hb); have n4_ := Aside0.mk (blk_below (g := gb397) (o := .cells #[.int .i64 t393, .int .i64 t394, .int .i64 t395, .bool true] 31 (0, 0)) (bk_ BK397) hb); have n5_ := Aside0.mk (below_step (bl_ HB) hb); clear BK382; clear BK383; clear BK391; clear BK392; clear BK397; clear HB; have BK382 := n0_; have BK383 := n1_; have BK391 := n2_; have BK392 := n3_; have BK397 := n4_; have HB := n5_; clear n0_ n1_ n2_ n3_ n4_ n5_; (try clear hb); (try clear hb2); (try clear hk); (try clear hi)))
         go_roundg k1
         case measure => have := HK1.out; omega
         case rel => exact ⟨(x9_1), (wrap64 (x10_1 + 1)), (by first | rfl | (simp; done) | (simp [*]; done)), (by first | rfl | (simp; done) | (simp [*]; done)), H', ⟨by have := HK1.out; omega⟩, ⟨by (with_reducible repeat (first | refine blk_drewN ?_ _ | refine blk_drew ?_ | refine blk_alloc ?_ _)); exact BK382.out⟩, ⟨by (with_reducible repeat (first | refine blk_drewN ?_ _ | refine blk_drew ?_ | refine blk_alloc ?_ _)); exact BK383.out⟩, ⟨by (with_reducible repeat (first | refine blk_drewN ?_ _ | refine blk_drew ?_ | refine blk_alloc ?_ _)); exact BK391.out⟩, ⟨by (with_reducible repeat (first | refine blk_drewN ?_ _ | refine blk_drew ?_ | refine blk_alloc ?_ _)); exact BK392.out⟩, ⟨by (with_reducible repeat (first | refine blk_drewN ?_ _ | refine blk_drew ?_ | refine blk_alloc ?_ _)); exact BK397.out⟩, ⟨by repeat (first | (with_reducible first | exact HB.out | apply below_alloc | apply pw_below_drewN | apply below_drew1 | refine below_set ?_ GE382.out | refine below_set ?_ GE383.out | refine below_set ?_ GE391.out | refine below_set ?_ GE392.out | refine below_set ?_ GE397.out) | exact HB.out)⟩⟩
      ·replace c41 := Bool.eq_false_iff.mpr c41
       subst c41
       have H1 : (if (t399 != false) = true then (none) else (if t399 = true then (warpwrightlaw25_SpanMeets.l0 k1 true (wrap64 (x9_1 + 1)) (wrap64 (x10_1 + 1)) t385 t386 t387 t388 t389 t390 t393 t394 t395 false) else (warpwrightlaw25_SpanMeets.l0 k1 true x9_1 (wrap64 (x10_1 + 1)) t385 t386 t387 t388 t389 t390 t393 t394 t395 false))) = some r := by rw [if_neg (show ¬ (false = true) by decide)] at H; exact H
       clear H
       have H := H1
       clear H1
       by_cases c75 : (t399 != false) = true
       ·rw [if_pos c75] at H
        exact absurd H (by simp)
       ·rw [if_neg c75] at H
        have c75b0 : (t399 != false) = false := by first | (simp; done) | simpa using c75
        (try (have c75b1 : decide (t399 = false) = true := by first | (simp; done) | simpa using c75))
        (try (have c75b2 : (t399 == false) = true := by first | (simp; done) | simpa using c75))
        clear c75
        by_cases c76 : t399 = true
        ·subst c76
         have H1 : (warpwrightlaw25_SpanMeets.l0 k1 true (wrap64 (x9_1 + 1)) (wrap64 (x10_1 + 1)) t385 t386 t387 t388 t389 t390 t393 t394 t395 false) = some r := by rw [if_pos rfl] at H; exact H
         clear H
         have H := H1
         clear H1
         have H' := Aside0.mk H
         clear H
         have hnb77 := NB391_382.out
         have hnc77 := NB382_391.out
         have hnb78 := NB391_383.out
         have hnc78 := NB383_391.out
         have hnb79 := NB391_392.out
         have hnc79 := NB392_391.out
         have hnb80 := NB391_397.out
         have hnc80 := NB397_391.out
         have hcz81_0 : wr.cell? ⟨gb391, 0, none⟩ = some (.int .i64 t385) := (blk_cell BK391.out 0).trans rfl
         have hcz81_1 : wr.cell? ⟨gb391, 1, none⟩ = some (.int .i64 t386) := (blk_cell BK391.out 1).trans rfl
         have hcz81_2 : wr.cell? ⟨gb391, 2, none⟩ = some (.int .i64 t387) := (blk_cell BK391.out 2).trans rfl
         have hfz81_0 := blk_frozen BK391.out 0
         have hfz81_1 := blk_frozen BK391.out 1
         have hfz81_2 := blk_frozen BK391.out 2
         go_wp2_with (first | ((with_reducible refine gate_callee (f := 13) rfl ?_); refine goesL_ (some 28) rfl rfl Try.func13 (by kernel_rfl) rfl #[.agg #[.int .i64 t385, .int .i64 t386, .int .i64 t387], .int .i64 x10_1] rfl am_ ?_; (with_reducible refine (span_Has.calls t385 t386 t387 x10_1 true _ A38.out).mono ?_); rintro e w82 ⟨rfl, hb⟩; refine ⟨_, rfl, ?_⟩; have n0_ := Aside0.mk (blk_below (g := gb382) (o := .cells #[.int .i64 a0_0, .int .u32 a0_1, .int .u16 a0_2] 25 (0, 0)) (bk_ BK382) hb); have n1_ := Aside0.mk (blk_below (g := gb383) (o := .cells #[.int .i64 a1_0, .int .u32 a1_1, .int .u16 a1_2] 25 (0, 0)) (bk_ BK383) hb); have n2_ := Aside0.mk (blk_below (g := gb391) (o := .cells #[.int .i64 t385, .int .i64 t386, .int .i64 t387] 28 (0, 0)) (bk_ BK391) hb); have n3_ := Aside0.mk (blk_below (g := gb392) (o := .cells #[.int .i64 t388, .int .i64 t389, .int .i64 t390] 28 (0, 0)) (bk_ BK392) hb); have n4_ := Aside0.mk (blk_below (g := gb397) (o := .cells #[.int .i64 t393, .int .i64 t394, .int .i64 t395, .bool false] 31 (0, 0)) (bk_ BK397) hb); have n5_ := Aside0.mk (below_step (bl_ HB) hb); clear BK382; clear BK383; clear BK391; clear BK392; clear BK397; clear HB; have BK382 := n0_; have BK383 := n1_; have BK391 := n2_; have BK392 := n3_; have BK397 := n4_; have HB := n5_; clear n0_ n1_ n2_ n3_ n4_ n5_; (try clear hb); (try clear hb2); (try clear hk); (try clear hi); have hnb83 := NB392_382.out; have hnc83 := NB382_392.out; have hnb84 := NB392_383.out; have hnc84 := NB383_392.out; have hnb85 := NB392_397.out; have hnc85 := NB397_392.out; have hcz86_0 : w82.cell? ⟨gb392, 0, none⟩ = some (.int .i64 t388) := (blk_cell BK392.out 0).trans rfl; have hcz86_1 : w82.cell? ⟨gb392, 1, none⟩ = some (.int .i64 t389) := (blk_cell BK392.out 1).trans rfl; have hcz86_2 : w82.cell? ⟨gb392, 2, none⟩ = some (.int .i64 t390) := (blk_cell BK392.out 2).trans rfl; have hfz86_0 := blk_frozen BK392.out 0; have hfz86_1 := blk_frozen BK392.out 1; have hfz86_2 := blk_frozen BK392.out 2) | (go_at_call 13; (with_reducible refine (span_Has.calls t388 t389 t390 x10_1 true _ A40.out).mono ?_); rintro e w87 ⟨rfl, hb⟩; have n0_ := Aside0.mk (blk_below (g := gb382) (o := .cells #[.int .i64 a0_0, .int .u32 a0_1, .int .u16 a0_2] 25 (0, 0)) (bk_ BK382) hb); have n1_ := Aside0.mk (blk_below (g := gb383) (o := .cells #[.int .i64 a1_0, .int .u32 a1_1, .int .u16 a1_2] 25 (0, 0)) (bk_ BK383) hb); have n2_ := Aside0.mk (blk_below (g := gb391) (o := .cells #[.int .i64 t385, .int .i64 t386, .int .i64 t387] 28 (0, 0)) (bk_ BK391) hb); have n3_ := Aside0.mk (blk_below (g := gb392) (o := .cells #[.int .i64 t388, .int .i64 t389, .int .i64 t390] 28 (0, 0)) (bk_ BK392) hb); have n4_ := Aside0.mk (blk_below (g := gb397) (o := .cells #[.int .i64 t393, .int .i64 t394, .int .i64 t395, .bool false] 31 (0, 0)) (bk_ BK397) hb); have n5_ := Aside0.mk (below_step (bl_ HB) hb); clear BK382; clear BK383; clear BK391; clear BK392; clear BK397; clear HB; have BK382 := n0_; have BK383 := n1_; have BK391 := n2_; have BK392 := n3_; have BK397 := n4_; have HB := n5_; clear n0_ n1_ n2_ n3_ n4_ n5_; (try clear hb); (try clear hb2); (try clear hk); (try clear hi); have hnb88 := NB397_382.out; have hnc88 := NB382_397.out; have hnb89 := NB397_383.out; have hnc89 := NB383_397.out; have hcz90_0 : w87.cell? ⟨gb397, 0, none⟩ = some (.int .i64 t393) := (blk_cell BK397.out 0).trans rfl; have hcz90_1 : w87.cell? ⟨gb397, 1, none⟩ = some (.int .i64 t394) := (blk_cell BK397.out 1).trans rfl; have hcz90_2 : w87.cell? ⟨gb397, 2, none⟩ = some (.int .i64 t395) := (blk_cell BK397.out 2).trans rfl; have hcz90_3 : w87.cell? ⟨gb397, 3, none⟩ = some (.bool false) := (blk_cell BK397.out 3).trans rfl; have hfz90_0 := blk_frozen BK397.out 0; have hfz90_1 := blk_frozen BK397.out 1; have hfz90_2 := blk_frozen BK397.out 2; have hfz90_3 := blk_frozen BK397.out 3))
         go_roundg k1
         case measure => have := HK1.out; omega
         case rel => exact ⟨(wrap64 (x9_1 + 1)), (wrap64 (x10_1 + 1)), (by first | rfl | (simp; done) | (simp [*]; done)), (by first | rfl | (simp; done) | (simp [*]; done)), H', ⟨by have := HK1.out; omega⟩, ⟨by (with_reducible repeat (first | refine blk_drewN ?_ _ | refine blk_drew ?_ | refine blk_alloc ?_ _)); exact BK382.out⟩, ⟨by (with_reducible repeat (first | refine blk_drewN ?_ _ | refine blk_drew ?_ | refine blk_alloc ?_ _)); exact BK383.out⟩, ⟨by (with_reducible repeat (first | refine blk_drewN ?_ _ | refine blk_drew ?_ | refine blk_alloc ?_ _)); exact BK391.out⟩, ⟨by (with_reducible repeat (first | refine blk_drewN ?_ _ | refine blk_drew ?_ | refine blk_alloc ?_ _)); exact BK392.out⟩, ⟨by (with_reducible repeat (first | refine blk_drewN ?_ _ | refine blk_drew ?_ | refine blk_alloc ?_ _)); exact BK397.out⟩, ⟨by repeat (first | (with_reducible first | exact HB.out | apply below_alloc | apply pw_below_drewN | apply below_drew1 | refine below_set ?_ GE382.out | refine below_set ?_ GE383.out | refine below_set ?_ GE391.out | refine below_set ?_ GE392.out | refine below_set ?_ GE397.out) | exact HB.out)⟩⟩
        ·replace c76 := Bool.eq_false_iff.mpr c76
         subst c76
         have H1 : (warpwrightlaw25_SpanMeets.l0 k1 true x9_1 (wrap64 (x10_1 + 1)) t385 t386 t387 t388 t389 t390 t393 t394 t395 false) = some r := by rw [if_neg (show ¬ (false = true) by decide)] at H; exact H
         clear H
         have H := H1
         clear H1
         have H' := Aside0.mk H
         clear H
         have hnb91 := NB391_382.out
         have hnc91 := NB382_391.out
         have hnb92 := NB391_383.out
         have hnc92 := NB383_391.out
         have hnb93 := NB391_392.out
         have hnc93 := NB392_391.out
         have hnb94 := NB391_397.out
         have hnc94 := NB397_391.out
         have hcz95_0 : wr.cell? ⟨gb391, 0, none⟩ = some (.int .i64 t385) := (blk_cell BK391.out 0).trans rfl
         have hcz95_1 : wr.cell? ⟨gb391, 1, none⟩ = some (.int .i64 t386) := (blk_cell BK391.out 1).trans rfl
         have hcz95_2 : wr.cell? ⟨gb391, 2, none⟩ = some (.int .i64 t387) := (blk_cell BK391.out 2).trans rfl
         have hfz95_0 := blk_frozen BK391.out 0
         have hfz95_1 := blk_frozen BK391.out 1
         have hfz95_2 := blk_frozen BK391.out 2
         go_wp2_with (first | ((with_reducible refine gate_callee (f := 13) rfl ?_); refine goesL_ (some 28) rfl rfl Try.func13 (by kernel_rfl) rfl #[.agg #[.int .i64 t385, .int .i64 t386, .int .i64 t387], .int .i64 x10_1] rfl am_ ?_; (with_reducible refine (span_Has.calls t385 t386 t387 x10_1 true _ A38.out).mono ?_); rintro e w96 ⟨rfl, hb⟩; refine ⟨_, rfl, ?_⟩; have n0_ := Aside0.mk (blk_below (g := gb382) (o := .cells #[.int .i64 a0_0, .int .u32 a0_1, .int .u16 a0_2] 25 (0, 0)) (bk_ BK382) hb); have n1_ := Aside0.mk (blk_below (g := gb383) (o := .cells #[.int .i64 a1_0, .int .u32 a1_1, .int .u16 a1_2] 25 (0, 0)) (bk_ BK383) hb); have n2_ := Aside0.mk (blk_below (g := gb391) (o := .cells #[.int .i64 t385, .int .i64 t386, .int .i64 t387] 28 (0, 0)) (bk_ BK391) hb); have n3_ := Aside0.mk (blk_below (g := gb392) (o := .cells #[.int .i64 t388, .int .i64 t389, .int .i64 t390] 28 (0, 0)) (bk_ BK392) hb); have n4_ := Aside0.mk (blk_below (g := gb397) (o := .cells #[.int .i64 t393, .int .i64 t394, .int .i64 t395, .bool false] 31 (0, 0)) (bk_ BK397) hb); have n5_ := Aside0.mk (below_step (bl_ HB) hb); clear BK382; clear BK383; clear BK391; clear BK392; clear BK397; clear HB; have BK382 := n0_; have BK383 := n1_; have BK391 := n2_; have BK392 := n3_; have BK397 := n4_; have HB := n5_; clear n0_ n1_ n2_ n3_ n4_ n5_; (try clear hb); (try clear hb2); (try clear hk); (try clear hi); have hnb97 := NB392_382.out; have hnc97 := NB382_392.out; have hnb98 := NB392_383.out; have hnc98 := NB383_392.out; have hnb99 := NB392_397.out; have hnc99 := NB397_392.out; have hcz100_0 : w96.cell? ⟨gb392, 0, none⟩ = some (.int .i64 t388) := (blk_cell BK392.out 0).trans rfl; have hcz100_1 : w96.cell? ⟨gb392, 1, none⟩ = some (.int .i64 t389) := (blk_cell BK392.out 1).trans rfl; have hcz100_2 : w96.cell? ⟨gb392, 2, none⟩ = some (.int .i64 t390) := (blk_cell BK392.out 2).trans rfl; have hfz100_0 := blk_frozen BK392.out 0; have hfz100_1 := blk_frozen BK392.out 1; have hfz100_2 := blk_frozen BK392.out 2) | (go_at_call 13; (with_reducible refine (span_Has.calls t388 t389 t390 x10_1 false _ A40.out).mono ?_); rintro e w101 ⟨rfl, hb⟩; have n0_ := Aside0.mk (blk_below (g := gb382) (o := .cells #[.int .i64 a0_0, .int .u32 a0_1, .int .u16 a0_2] 25 (0, 0)) (bk_ BK382) hb); have n1_ := Aside0.mk (blk_below (g := gb383) (o := .cells #[.int .i64 a1_0, .int .u32 a1_1, .int .u16 a1_2] 25 (0, 0)) (bk_ BK383) hb); have n2_ := Aside0.mk (blk_below (g := gb391) (o := .cells #[.int .i64 t385, .int .i64 t386, .int .i64 t387] 28 (0, 0)) (bk_ BK391) hb); have n3_ := Aside0.mk (blk_below (g := gb392) (o := .cells #[.int .i64 t388, .int .i64 t389, .int .i64 t390] 28 (0, 0)) (bk_ BK392) hb); have n4_ := Aside0.mk (blk_below (g := gb397) (o := .cells #[.int .i64 t393, .int .i64 t394, .int .i64 t395, .bool false] 31 (0, 0)) (bk_ BK397) hb); have n5_ := Aside0.mk (below_step (bl_ HB) hb); clear BK382; clear BK383; clear BK391; clear BK392; clear BK397; clear HB; have BK382 := n0_; have BK383 := n1_; have BK391 := n2_; have BK392 := n3_; have BK397 := n4_; have HB := n5_; clear n0_ n1_ n2_ n3_ n4_ n5_; (try clear hb); (try clear hb2); (try clear hk); (try clear hi); have hnb102 := NB397_382.out; have hnc102 := NB382_397.out; have hnb103 := NB397_383.out; have hnc103 := NB383_397.out; have hcz104_0 : w101.cell? ⟨gb397, 0, none⟩ = some (.int .i64 t393) := (blk_cell BK397.out 0).trans rfl; have hcz104_1 : w101.cell? ⟨gb397, 1, none⟩ = some (.int .i64 t394) := (blk_cell BK397.out 1).trans rfl; have hcz104_2 : w101.cell? ⟨gb397, 2, none⟩ = some (.int .i64 t395) := (blk_cell BK397.out 2).trans rfl; have hcz104_3 : w101.cell? ⟨gb397, 3, none⟩ = some (.bool false) := (blk_cell BK397.out 3).trans rfl; have hfz104_0 := blk_frozen BK397.out 0; have hfz104_1 := blk_frozen BK397.out 1; have hfz104_2 := blk_frozen BK397.out 2; have hfz104_3 := blk_frozen BK397.out 3))
         go_roundg k1
         case measure => have := HK1.out; omega
         case rel => exact ⟨(x9_1), (wrap64 (x10_1 + 1)), (by first | rfl | (simp; done) | (simp [*]; done)), (by first | rfl | (simp; done) | (simp [*]; done)), H', ⟨by have := HK1.out; omega⟩, ⟨by (with_reducible repeat (first | refine blk_drewN ?_ _ | refine blk_drew ?_ | refine blk_alloc ?_ _)); exact BK382.out⟩, ⟨by (with_reducible repeat (first | refine blk_drewN ?_ _ | refine blk_drew ?_ | refine blk_alloc ?_ _)); exact BK383.out⟩, ⟨by (with_reducible repeat (first | refine blk_drewN ?_ _ | refine blk_drew ?_ | refine blk_alloc ?_ _)); exact BK391.out⟩, ⟨by (with_reducible repeat (first | refine blk_drewN ?_ _ | refine blk_drew ?_ | refine blk_alloc ?_ _)); exact BK392.out⟩, ⟨by (with_reducible repeat (first | refine blk_drewN ?_ _ | refine blk_drew ?_ | refine blk_alloc ?_ _)); exact BK397.out⟩, ⟨by repeat (first | (with_reducible first | exact HB.out | apply below_alloc | apply pw_below_drewN | apply below_drew1 | refine below_set ?_ GE382.out | refine below_set ?_ GE383.out | refine below_set ?_ GE391.out | refine below_set ?_ GE392.out | refine below_set ?_ GE397.out) | exact HB.out)⟩⟩
     ·replace c39 := Bool.eq_false_iff.mpr c39
      subst c39
      have H1 : (if t396 = true then ((span_Has.f t393 t394 t395 x10_1).bind fun t401 => (if (false != t401) = true then (none) else (warpwrightlaw25_SpanMeets.l0 k1 true x9_1 (wrap64 (x10_1 + 1)) t385 t386 t387 t388 t389 t390 t393 t394 t395 t396))) else (if (false != false) = true then (none) else (warpwrightlaw25_SpanMeets.l0 k1 true x9_1 (wrap64 (x10_1 + 1)) t385 t386 t387 t388 t389 t390 t393 t394 t395 t396))) = some r := by rw [if_neg (show ¬ (false = true) by decide)] at H; exact H
      clear H
      have H := H1
      clear H1
      by_cases c105 : t396 = true
      ·subst c105
       have H1 : ((span_Has.f t393 t394 t395 x10_1).bind fun t401 => (if (false != t401) = true then (none) else (warpwrightlaw25_SpanMeets.l0 k1 true x9_1 (wrap64 (x10_1 + 1)) t385 t386 t387 t388 t389 t390 t393 t394 t395 true))) = some r := by rw [if_pos rfl] at H; exact H
       clear H
       have H := H1
       clear H1
       replace H := Option.bind_eq_some_iff.mp H
       obtain ⟨t401, A1060, H⟩ := H
       replace H : (if (false != t401) = true then (none) else (warpwrightlaw25_SpanMeets.l0 k1 true x9_1 (wrap64 (x10_1 + 1)) t385 t386 t387 t388 t389 t390 t393 t394 t395 true)) = some r := H
       have A106 := Aside0.mk A1060
       clear A1060
       by_cases c107 : (false != t401) = true
       ·rw [if_pos c107] at H
        exact absurd H (by simp)
       ·rw [if_neg c107] at H
        have c107b0 : (false != t401) = false := by first | (simp; done) | simpa using c107
        (try (have c107b1 : decide (false = t401) = true := by first | (simp; done) | simpa using c107))
        (try (have c107b2 : (false == t401) = true := by first | (simp; done) | simpa using c107))
        clear c107
        have H' := Aside0.mk H
        clear H
        have hnb108 := NB391_382.out
        have hnc108 := NB382_391.out
        have hnb109 := NB391_383.out
        have hnc109 := NB383_391.out
        have hnb110 := NB391_392.out
        have hnc110 := NB392_391.out
        have hnb111 := NB391_397.out
        have hnc111 := NB397_391.out
        have hcz112_0 : wr.cell? ⟨gb391, 0, none⟩ = some (.int .i64 t385) := (blk_cell BK391.out 0).trans rfl
        have hcz112_1 : wr.cell? ⟨gb391, 1, none⟩ = some (.int .i64 t386) := (blk_cell BK391.out 1).trans rfl
        have hcz112_2 : wr.cell? ⟨gb391, 2, none⟩ = some (.int .i64 t387) := (blk_cell BK391.out 2).trans rfl
        have hfz112_0 := blk_frozen BK391.out 0
        have hfz112_1 := blk_frozen BK391.out 1
        have hfz112_2 := blk_frozen BK391.out 2
        go_wp2_with (first | ((with_reducible refine gate_callee (f := 13) rfl ?_); refine goesL_ (some 28) rfl rfl Try.func13 (by kernel_rfl) rfl #[.agg #[.int .i64 t385, .int .i64 t386, .int .i64 t387], .int .i64 x10_1] rfl am_ ?_; (with_reducible refine (span_Has.calls t385 t386 t387 x10_1 false _ A38.out).mono ?_); rintro e w113 ⟨rfl, hb⟩; refine ⟨_, rfl, ?_⟩; have n0_ := Aside0.mk (blk_below (g := gb382) (o := .cells #[.int .i64 a0_0, .int .u32 a0_1, .int .u16 a0_2] 25 (0, 0)) (bk_ BK382) hb); have n1_ := Aside0.mk (blk_below (g := gb383) (o := .cells #[.int .i64 a1_0, .int .u32 a1_1, .int .u16 a1_2] 25 (0, 0)) (bk_ BK383) hb); have n2_ := Aside0.mk (blk_below (g := gb391) (o := .cells #[.int .i64 t385, .int .i64 t386, .int .i64 t387] 28 (0, 0)) (bk_ BK391) hb); have n3_ := Aside0.mk (blk_below (g := gb392) (o := .cells #[.int .i64 t388, .int .i64 t389, .int .i64 t390] 28 (0, 0)) (bk_ BK392) hb); have n4_ := Aside0.mk (blk_below (g := gb397) (o := .cells #[.int .i64 t393, .int .i64 t394, .int .i64 t395, .bool true] 31 (0, 0)) (bk_ BK397) hb); have n5_ := Aside0.mk (below_step (bl_ HB) hb); clear BK382; clear BK383; clear BK391; clear BK392; clear BK397; clear HB; have BK382 := n0_; have BK383 := n1_; have BK391 := n2_; have BK392 := n3_; have BK397 := n4_; have HB := n5_; clear n0_ n1_ n2_ n3_ n4_ n5_; (try clear hb); (try clear hb2); (try clear hk); (try clear hi); have hnb114 := NB397_382.out; have hnc114 := NB382_397.out; have hnb115 := NB397_383.out; have hnc115 := NB383_397.out; have hnb116 := NB397_392.out; have hnc116 := NB392_397.out; have hcz117_0 : w113.cell? ⟨gb397, 0, none⟩ = some (.int .i64 t393) := (blk_cell BK397.out 0).trans rfl; have hcz117_1 : w113.cell? ⟨gb397, 1, none⟩ = some (.int .i64 t394) := (blk_cell BK397.out 1).trans rfl; have hcz117_2 : w113.cell? ⟨gb397, 2, none⟩ = some (.int .i64 t395) := (blk_cell BK397.out 2).trans rfl; have hcz117_3 : w113.cell? ⟨gb397, 3, none⟩ = some (.bool true) := (blk_cell BK397.out 3).trans rfl; have hfz117_0 := blk_frozen BK397.out 0; have hfz117_1 := blk_frozen BK397.out 1; have hfz117_2 := blk_frozen BK397.out 2; have hfz117_3 := blk_frozen BK397.out 3) | (go_at_call 13; (with_reducible refine (span_Has.calls t393 t394 t395 x10_1 t401 _ A106.out).mono ?_); rintro e w118 ⟨rfl, hb⟩; have n0_ := Aside0.mk (blk_below (g := gb382) (o := .cells #[.int .i64 a0_0, .int .u32 a0_1, .int .u16 a0_2] 25 (0, 0)) (bk_ BK382) hb); have n1_ := Aside0.mk (blk_below (g := gb383) (o := .cells #[.int .i64 a1_0, .int .u32 a1_1, .int .u16 a1_2] 25 (0, 0)) (bk_ BK383) hb); have n2_ := Aside0.mk (blk_below (g := gb391) (o := .cells #[.int .i64 t385, .int .i64 t386, .int .i64 t387] 28 (0, 0)) (bk_ BK391) hb); have n3_ := Aside0.mk (blk_below (g := gb392) (o := .cells #[.int .i64 t388, .int .i64 t389, .int .i64 t390] 28 (0, 0)) (bk_ BK392) hb); have n4_ := Aside0.mk (blk_below (g := gb397) (o := .cells #[.int .i64 t393, .int .i64 t394, .int .i64 t395, .bool true] 31 (0, 0)) (bk_ BK397) hb); have n5_ := Aside0.mk (below_step (bl_ HB) hb); clear BK382; clear BK383; clear BK391; clear BK392; clear BK397; clear HB; have BK382 := n0_; have BK383 := n1_; have BK391 := n2_; have BK392 := n3_; have BK397 := n4_; have HB := n5_; clear n0_ n1_ n2_ n3_ n4_ n5_; (try clear hb); (try clear hb2); (try clear hk); (try clear hi)))
        go_roundg k1
        case measure => have := HK1.out; omega
        case rel => exact ⟨(x9_1), (wrap64 (x10_1 + 1)), (by first | rfl | (simp; done) | (simp [*]; done)), (by first | rfl | (simp; done) | (simp [*]; done)), H', ⟨by have := HK1.out; omega⟩, ⟨by (with_reducible repeat (first | refine blk_drewN ?_ _ | refine blk_drew ?_ | refine blk_alloc ?_ _)); exact BK382.out⟩, ⟨by (with_reducible repeat (first | refine blk_drewN ?_ _ | refine blk_drew ?_ | refine blk_alloc ?_ _)); exact BK383.out⟩, ⟨by (with_reducible repeat (first | refine blk_drewN ?_ _ | refine blk_drew ?_ | refine blk_alloc ?_ _)); exact BK391.out⟩, ⟨by (with_reducible repeat (first | refine blk_drewN ?_ _ | refine blk_drew ?_ | refine blk_alloc ?_ _)); exact BK392.out⟩, ⟨by (with_reducible repeat (first | refine blk_drewN ?_ _ | refine blk_drew ?_ | refine blk_alloc ?_ _)); exact BK397.out⟩, ⟨by repeat (first | (with_reducible first | exact HB.out | apply below_alloc | apply pw_below_drewN | apply below_drew1 | refine below_set ?_ GE382.out | refine below_set ?_ GE383.out | refine below_set ?_ GE391.out | refine below_set ?_ GE392.out | refine below_set ?_ GE397.out) | exact HB.out)⟩⟩
      ·replace c105 := Bool.eq_false_iff.mpr c105
       subst c105
       have H1 : (if (false != false) = true then (none) else (warpwrightlaw25_SpanMeets.l0 k1 true x9_1 (wrap64 (x10_1 + 1)) t385 t386 t387 t388 t389 t390 t393 t394 t395 false)) = some r := by rw [if_neg (show ¬ (false = true) by decide)] at H; exact H
       clear H
       have H := H1
       clear H1
       by_cases c119 : (false != false) = true
       ·rw [if_pos c119] at H
        exact absurd H (by simp)
       ·rw [if_neg c119] at H
        have c119b0 : (false != false) = false := by first | (simp; done) | simpa using c119
        (try (have c119b1 : decide (false = false) = true := by first | (simp; done) | simpa using c119))
        (try (have c119b2 : (false == false) = true := by first | (simp; done) | simpa using c119))
        clear c119
        have H' := Aside0.mk H
        clear H
        have hnb120 := NB391_382.out
        have hnc120 := NB382_391.out
        have hnb121 := NB391_383.out
        have hnc121 := NB383_391.out
        have hnb122 := NB391_392.out
        have hnc122 := NB392_391.out
        have hnb123 := NB391_397.out
        have hnc123 := NB397_391.out
        have hcz124_0 : wr.cell? ⟨gb391, 0, none⟩ = some (.int .i64 t385) := (blk_cell BK391.out 0).trans rfl
        have hcz124_1 : wr.cell? ⟨gb391, 1, none⟩ = some (.int .i64 t386) := (blk_cell BK391.out 1).trans rfl
        have hcz124_2 : wr.cell? ⟨gb391, 2, none⟩ = some (.int .i64 t387) := (blk_cell BK391.out 2).trans rfl
        have hfz124_0 := blk_frozen BK391.out 0
        have hfz124_1 := blk_frozen BK391.out 1
        have hfz124_2 := blk_frozen BK391.out 2
        go_wp2_with (first | ((with_reducible refine gate_callee (f := 13) rfl ?_); refine goesL_ (some 28) rfl rfl Try.func13 (by kernel_rfl) rfl #[.agg #[.int .i64 t385, .int .i64 t386, .int .i64 t387], .int .i64 x10_1] rfl am_ ?_; (with_reducible refine (span_Has.calls t385 t386 t387 x10_1 false _ A38.out).mono ?_); rintro e w125 ⟨rfl, hb⟩; refine ⟨_, rfl, ?_⟩; have n0_ := Aside0.mk (blk_below (g := gb382) (o := .cells #[.int .i64 a0_0, .int .u32 a0_1, .int .u16 a0_2] 25 (0, 0)) (bk_ BK382) hb); have n1_ := Aside0.mk (blk_below (g := gb383) (o := .cells #[.int .i64 a1_0, .int .u32 a1_1, .int .u16 a1_2] 25 (0, 0)) (bk_ BK383) hb); have n2_ := Aside0.mk (blk_below (g := gb391) (o := .cells #[.int .i64 t385, .int .i64 t386, .int .i64 t387] 28 (0, 0)) (bk_ BK391) hb); have n3_ := Aside0.mk (blk_below (g := gb392) (o := .cells #[.int .i64 t388, .int .i64 t389, .int .i64 t390] 28 (0, 0)) (bk_ BK392) hb); have n4_ := Aside0.mk (blk_below (g := gb397) (o := .cells #[.int .i64 t393, .int .i64 t394, .int .i64 t395, .bool false] 31 (0, 0)) (bk_ BK397) hb); have n5_ := Aside0.mk (below_step (bl_ HB) hb); clear BK382; clear BK383; clear BK391; clear BK392; clear BK397; clear HB; have BK382 := n0_; have BK383 := n1_; have BK391 := n2_; have BK392 := n3_; have BK397 := n4_; have HB := n5_; clear n0_ n1_ n2_ n3_ n4_ n5_; (try clear hb); (try clear hb2); (try clear hk); (try clear hi); have hnb126 := NB397_382.out; have hnc126 := NB382_397.out; have hnb127 := NB397_383.out; have hnc127 := NB383_397.out; have hnb128 := NB397_392.out; have hnc128 := NB392_397.out; have hcz129_0 : w125.cell? ⟨gb397, 0, none⟩ = some (.int .i64 t393) := (blk_cell BK397.out 0).trans rfl; have hcz129_1 : w125.cell? ⟨gb397, 1, none⟩ = some (.int .i64 t394) := (blk_cell BK397.out 1).trans rfl; have hcz129_2 : w125.cell? ⟨gb397, 2, none⟩ = some (.int .i64 t395) := (blk_cell BK397.out 2).trans rfl; have hcz129_3 : w125.cell? ⟨gb397, 3, none⟩ = some (.bool false) := (blk_cell BK397.out 3).trans rfl; have hfz129_0 := blk_frozen BK397.out 0; have hfz129_1 := blk_frozen BK397.out 1; have hfz129_2 := blk_frozen BK397.out 2; have hfz129_3 := blk_frozen BK397.out 3))
        go_roundg k1
        case measure => have := HK1.out; omega
        case rel => exact ⟨(x9_1), (wrap64 (x10_1 + 1)), (by first | rfl | (simp; done) | (simp [*]; done)), (by first | rfl | (simp; done) | (simp [*]; done)), H', ⟨by have := HK1.out; omega⟩, ⟨by (with_reducible repeat (first | refine blk_drewN ?_ _ | refine blk_drew ?_ | refine blk_alloc ?_ _)); exact BK382.out⟩, ⟨by (with_reducible repeat (first | refine blk_drewN ?_ _ | refine blk_drew ?_ | refine blk_alloc ?_ _)); exact BK383.out⟩, ⟨by (with_reducible repeat (first | refine blk_drewN ?_ _ | refine blk_drew ?_ | refine blk_alloc ?_ _)); exact BK391.out⟩, ⟨by (with_reducible repeat (first | refine blk_drewN ?_ _ | refine blk_drew ?_ | refine blk_alloc ?_ _)); exact BK392.out⟩, ⟨by (with_reducible repeat (first | refine blk_drewN ?_ _ | refine blk_drew ?_ | refine blk_alloc ?_ _)); exact BK397.out⟩, ⟨by repeat (first | (with_reducible first | exact HB.out | apply below_alloc | apply pw_below_drewN | apply below_drew1 | refine below_set ?_ GE382.out | refine below_set ?_ GE383.out | refine below_set ?_ GE391.out | refine below_set ?_ GE392.out | refine below_set ?_ GE397.out) | exact HB.out)⟩⟩
    ·rw [if_neg c37] at H
     have c37b0 : decide (x10_1 ≤ 200) = false := decide_eq_false c37
     clear c37
     by_cases c130 : t396 = true
     ·subst c130
      have H1 : ((span_Valid.f k1 t393 t394 t395).bind fun t402 => (if t402 = true then ((span_Size.f t393 t394 t395).bind fun t403 => (if t403 = x9_1 then ((span_Apart.f k1 t385 t386 t387 t388 t389 t390).bind fun t404 => (if t404 = true then (none) else (some true))) else (none))) else (none))) = some r := by rw [if_pos rfl] at H; exact H
      clear H
      have H := H1
      clear H1
      replace H := Option.bind_eq_some_iff.mp H
      obtain ⟨t402, A1310, H⟩ := H
      replace H : (if t402 = true then ((span_Size.f t393 t394 t395).bind fun t403 => (if t403 = x9_1 then ((span_Apart.f k1 t385 t386 t387 t388 t389 t390).bind fun t404 => (if t404 = true then (none) else (some true))) else (none))) else (none)) = some r := H
      have A131 := Aside0.mk A1310
      clear A1310
      by_cases c132 : t402 = true
      ·subst c132
       have H1 : ((span_Size.f t393 t394 t395).bind fun t403 => (if t403 = x9_1 then ((span_Apart.f k1 t385 t386 t387 t388 t389 t390).bind fun t404 => (if t404 = true then (none) else (some true))) else (none))) = some r := by rw [if_pos rfl] at H; exact H
       clear H
       have H := H1
       clear H1
       replace H := Option.bind_eq_some_iff.mp H
       obtain ⟨t403, A1330, H⟩ := H
       replace H : (if t403 = x9_1 then ((span_Apart.f k1 t385 t386 t387 t388 t389 t390).bind fun t404 => (if t404 = true then (none) else (some true))) else (none)) = some r := H
       have A133 := Aside0.mk A1330
       clear A1330
       by_cases c134 : t403 = x9_1
       ·rw [if_pos c134] at H
        have c134b0 : (t403 == x9_1) = true := beq_iff_eq.mpr c134
        have c134b1 : (t403 != x9_1) = false := bne_eq_false_iff_eq.mpr c134
        clear c134
        replace H := Option.bind_eq_some_iff.mp H
        obtain ⟨t404, A1350, H⟩ := H
        replace H : (if t404 = true then (none) else (some true)) = some r := H
        have A135 := Aside0.mk A1350
        clear A1350
        by_cases c136 : t404 = true
        ·subst c136
         have H1 : (none) = some r := by rw [if_pos rfl] at H; exact H
         clear H
         have H := H1
         clear H1
         exact absurd H (by simp)
        ·replace c136 := Bool.eq_false_iff.mpr c136
         subst c136
         have H1 : (some true) = some r := by rw [if_neg (show ¬ (false = true) by decide)] at H; exact H
         clear H
         have H := H1
         clear H1
         obtain rfl := Option.some.inj H
         have hnb137 := NB397_382.out
         have hnc137 := NB382_397.out
         have hnb138 := NB397_383.out
         have hnc138 := NB383_397.out
         have hnb139 := NB397_391.out
         have hnc139 := NB391_397.out
         have hnb140 := NB397_392.out
         have hnc140 := NB392_397.out
         have hcz141_0 : wr.cell? ⟨gb397, 0, none⟩ = some (.int .i64 t393) := (blk_cell BK397.out 0).trans rfl
         have hcz141_1 : wr.cell? ⟨gb397, 1, none⟩ = some (.int .i64 t394) := (blk_cell BK397.out 1).trans rfl
         have hcz141_2 : wr.cell? ⟨gb397, 2, none⟩ = some (.int .i64 t395) := (blk_cell BK397.out 2).trans rfl
         have hcz141_3 : wr.cell? ⟨gb397, 3, none⟩ = some (.bool true) := (blk_cell BK397.out 3).trans rfl
         have hfz141_0 := blk_frozen BK397.out 0
         have hfz141_1 := blk_frozen BK397.out 1
         have hfz141_2 := blk_frozen BK397.out 2
         have hfz141_3 := blk_frozen BK397.out 3
         go_wp2_with (first | ((with_reducible refine gate_callee (f := 15) rfl ?_); refine goesL_ (some 68) rfl rfl Try.func15 (by kernel_rfl) rfl #[.agg #[.int .i64 t393, .int .i64 t394, .int .i64 t395]] rfl am_ ?_; (with_reducible refine (span_Valid.calls k1 t393 t394 t395 true _ A131.out).mono ?_); rintro e w142 ⟨rfl, hb⟩; refine ⟨_, rfl, ?_⟩; have n0_ := Aside0.mk (blk_below (g := gb382) (o := .cells #[.int .i64 a0_0, .int .u32 a0_1, .int .u16 a0_2] 25 (0, 0)) (bk_ BK382) hb); have n1_ := Aside0.mk (blk_below (g := gb383) (o := .cells #[.int .i64 a1_0, .int .u32 a1_1, .int .u16 a1_2] 25 (0, 0)) (bk_ BK383) hb); have n2_ := Aside0.mk (blk_below (g := gb391) (o := .cells #[.int .i64 t385, .int .i64 t386, .int .i64 t387] 28 (0, 0)) (bk_ BK391) hb); have n3_ := Aside0.mk (blk_below (g := gb392) (o := .cells #[.int .i64 t388, .int .i64 t389, .int .i64 t390] 28 (0, 0)) (bk_ BK392) hb); have n4_ := Aside0.mk (blk_below (g := gb397) (o := .cells #[.int .i64 t393, .int .i64 t394, .int .i64 t395, .bool true] 31 (0, 0)) (bk_ BK397) hb); have n5_ := Aside0.mk (below_step (bl_ HB) hb); clear BK382; clear BK383; clear BK391; clear BK392; clear BK397; clear HB; have BK382 := n0_; have BK383 := n1_; have BK391 := n2_; have BK392 := n3_; have BK397 := n4_; have HB := n5_; clear n0_ n1_ n2_ n3_ n4_ n5_; (try clear hb); (try clear hb2); (try clear hk); (try clear hi); have hcz143_0 : w142.cell? ⟨gb397, 0, none⟩ = some (.int .i64 t393) := (blk_cell BK397.out 0).trans rfl; have hcz143_1 : w142.cell? ⟨gb397, 1, none⟩ = some (.int .i64 t394) := (blk_cell BK397.out 1).trans rfl; have hcz143_2 : w142.cell? ⟨gb397, 2, none⟩ = some (.int .i64 t395) := (blk_cell BK397.out 2).trans rfl; have hcz143_3 : w142.cell? ⟨gb397, 3, none⟩ = some (.bool true) := (blk_cell BK397.out 3).trans rfl; have hfz143_0 := blk_frozen BK397.out 0; have hfz143_1 := blk_frozen BK397.out 1; have hfz143_2 := blk_frozen BK397.out 2; have hfz143_3 := blk_frozen BK397.out 3) | (go_at_call 16; (with_reducible refine (span_Size.calls t393 t394 t395 t403 _ A133.out).mono ?_); rintro e w144 ⟨rfl, hb⟩; have n0_ := Aside0.mk (blk_below (g := gb382) (o := .cells #[.int .i64 a0_0, .int .u32 a0_1, .int .u16 a0_2] 25 (0, 0)) (bk_ BK382) hb); have n1_ := Aside0.mk (blk_below (g := gb383) (o := .cells #[.int .i64 a1_0, .int .u32 a1_1, .int .u16 a1_2] 25 (0, 0)) (bk_ BK383) hb); have n2_ := Aside0.mk (blk_below (g := gb391) (o := .cells #[.int .i64 t385, .int .i64 t386, .int .i64 t387] 28 (0, 0)) (bk_ BK391) hb); have n3_ := Aside0.mk (blk_below (g := gb392) (o := .cells #[.int .i64 t388, .int .i64 t389, .int .i64 t390] 28 (0, 0)) (bk_ BK392) hb); have n4_ := Aside0.mk (blk_below (g := gb397) (o := .cells #[.int .i64 t393, .int .i64 t394, .int .i64 t395, .bool true] 31 (0, 0)) (bk_ BK397) hb); have n5_ := Aside0.mk (below_step (bl_ HB) hb); clear BK382; clear BK383; clear BK391; clear BK392; clear BK397; clear HB; have BK382 := n0_; have BK383 := n1_; have BK391 := n2_; have BK392 := n3_; have BK397 := n4_; have HB := n5_; clear n0_ n1_ n2_ n3_ n4_ n5_; (try clear hb); (try clear hb2); (try clear hk); (try clear hi); have hnb145 := NB391_382.out; have hnc145 := NB382_391.out; have hnb146 := NB391_383.out; have hnc146 := NB383_391.out; have hnb147 := NB391_392.out; have hnc147 := NB392_391.out; have hcz148_0 : w144.cell? ⟨gb391, 0, none⟩ = some (.int .i64 t385) := (blk_cell BK391.out 0).trans rfl; have hcz148_1 : w144.cell? ⟨gb391, 1, none⟩ = some (.int .i64 t386) := (blk_cell BK391.out 1).trans rfl; have hcz148_2 : w144.cell? ⟨gb391, 2, none⟩ = some (.int .i64 t387) := (blk_cell BK391.out 2).trans rfl; have hfz148_0 := blk_frozen BK391.out 0; have hfz148_1 := blk_frozen BK391.out 1; have hfz148_2 := blk_frozen BK391.out 2; have hnb149 := NB392_382.out; have hnc149 := NB382_392.out; have hnb150 := NB392_383.out; have hnc150 := NB383_392.out; have hcz151_0 : w144.cell? ⟨gb392, 0, none⟩ = some (.int .i64 t388) := (blk_cell BK392.out 0).trans rfl; have hcz151_1 : w144.cell? ⟨gb392, 1, none⟩ = some (.int .i64 t389) := (blk_cell BK392.out 1).trans rfl; have hcz151_2 : w144.cell? ⟨gb392, 2, none⟩ = some (.int .i64 t390) := (blk_cell BK392.out 2).trans rfl; have hfz151_0 := blk_frozen BK392.out 0; have hfz151_1 := blk_frozen BK392.out 1; have hfz151_2 := blk_frozen BK392.out 2) | (go_at_call 14; (with_reducible refine (span_Apart.calls k1 t385 t386 t387 t388 t389 t390 false _ A135.out).mono ?_); rintro e w152 ⟨rfl, hb⟩; have n0_ := Aside0.mk (blk_below (g := gb382) (o := .cells #[.int .i64 a0_0, .int .u32 a0_1, .int .u16 a0_2] 25 (0, 0)) (bk_ BK382) hb); have n1_ := Aside0.mk (blk_below (g := gb383) (o := .cells #[.int .i64 a1_0, .int .u32 a1_1, .int .u16 a1_2] 25 (0, 0)) (bk_ BK383) hb); have n2_ := Aside0.mk (blk_below (g := gb391) (o := .cells #[.int .i64 t385, .int .i64 t386, .int .i64 t387] 28 (0, 0)) (bk_ BK391) hb); have n3_ := Aside0.mk (blk_below (g := gb392) (o := .cells #[.int .i64 t388, .int .i64 t389, .int .i64 t390] 28 (0, 0)) (bk_ BK392) hb); have n4_ := Aside0.mk (blk_below (g := gb397) (o := .cells #[.int .i64 t393, .int .i64 t394, .int .i64 t395, .bool true] 31 (0, 0)) (bk_ BK397) hb); have n5_ := Aside0.mk (below_step (bl_ HB) hb); clear BK382; clear BK383; clear BK391; clear BK392; clear BK397; clear HB; have BK382 := n0_; have BK383 := n1_; have BK391 := n2_; have BK392 := n3_; have BK397 := n4_; have HB := n5_; clear n0_ n1_ n2_ n3_ n4_ n5_; (try clear hb); (try clear hb2); (try clear hk); (try clear hi)))
         go_ret
         exact ⟨by first | rfl | (simp [errW_none, errW_some] <;> rfl) | (simp [*, errW_none, errW_some] <;> rfl), by repeat (first | (with_reducible first | exact HB.out | apply below_alloc | apply pw_below_drewN | apply below_drew1 | refine below_set ?_ GE382.out | refine below_set ?_ GE383.out | refine below_set ?_ GE391.out | refine below_set ?_ GE392.out | refine below_set ?_ GE397.out) | exact HB.out)⟩
       ·rw [if_neg c134] at H
        exact absurd H (by simp)
      ·replace c132 := Bool.eq_false_iff.mpr c132
       subst c132
       have H1 : (none) = some r := by rw [if_neg (show ¬ (false = true) by decide)] at H; exact H
       clear H
       have H := H1
       clear H1
       exact absurd H (by simp)
     ·replace c130 := Bool.eq_false_iff.mpr c130
      subst c130
      have H1 : (if x9_1 = 0 then ((span_Apart.f k1 t385 t386 t387 t388 t389 t390).bind fun t405 => (if t405 = true then (if (t393 == 0 && (t394 == 0 && (t395 == 0))) = true then (some true) else (none)) else (none))) else (none)) = some r := by rw [if_neg (show ¬ (false = true) by decide)] at H; exact H
      clear H
      have H := H1
      clear H1
      by_cases c153 : x9_1 = 0
      ·rw [if_pos c153] at H
       have c153b0 : (x9_1 == 0) = true := beq_iff_eq.mpr c153
       have c153b1 : (x9_1 != 0) = false := bne_eq_false_iff_eq.mpr c153
       clear c153
       replace H := Option.bind_eq_some_iff.mp H
       obtain ⟨t405, A1540, H⟩ := H
       replace H : (if t405 = true then (if (t393 == 0 && (t394 == 0 && (t395 == 0))) = true then (some true) else (none)) else (none)) = some r := H
       have A154 := Aside0.mk A1540
       clear A1540
       by_cases c155 : t405 = true
       ·subst c155
        have H1 : (if (t393 == 0 && (t394 == 0 && (t395 == 0))) = true then (some true) else (none)) = some r := by rw [if_pos rfl] at H; exact H
        clear H
        have H := H1
        clear H1
        by_cases c156 : (t393 == 0 && (t394 == 0 && (t395 == 0))) = true
        ·rw [if_pos c156] at H
         have c156b0 : (t393 == 0 && (t394 == 0 && (t395 == 0))) = true := c156
         (try (have c156b1 : decide (t393 = 0 && (t394 == 0 && (t395 == 0))) = true := by first | (simp; done) | simpa using c156))
         (try (have c156b2 : (t393 == 0 && (t394 == 0 && (t395 == 0))) = true := by first | (simp; done) | simpa using c156))
         clear c156
         obtain rfl := Option.some.inj H
         have hnb157 := NB397_382.out
         have hnc157 := NB382_397.out
         have hnb158 := NB397_383.out
         have hnc158 := NB383_397.out
         have hnb159 := NB397_391.out
         have hnc159 := NB391_397.out
         have hnb160 := NB397_392.out
         have hnc160 := NB392_397.out
         have hcz161_0 : wr.cell? ⟨gb397, 0, none⟩ = some (.int .i64 t393) := (blk_cell BK397.out 0).trans rfl
         have hcz161_1 : wr.cell? ⟨gb397, 1, none⟩ = some (.int .i64 t394) := (blk_cell BK397.out 1).trans rfl
         have hcz161_2 : wr.cell? ⟨gb397, 2, none⟩ = some (.int .i64 t395) := (blk_cell BK397.out 2).trans rfl
         have hcz161_3 : wr.cell? ⟨gb397, 3, none⟩ = some (.bool false) := (blk_cell BK397.out 3).trans rfl
         have hfz161_0 := blk_frozen BK397.out 0
         have hfz161_1 := blk_frozen BK397.out 1
         have hfz161_2 := blk_frozen BK397.out 2
         have hfz161_3 := blk_frozen BK397.out 3
         have hnb162 := NB391_382.out
         have hnc162 := NB382_391.out
         have hnb163 := NB391_383.out
         have hnc163 := NB383_391.out
         have hnb164 := NB391_392.out
         have hnc164 := NB392_391.out
         have hcz165_0 : wr.cell? ⟨gb391, 0, none⟩ = some (.int .i64 t385) := (blk_cell BK391.out 0).trans rfl
         have hcz165_1 : wr.cell? ⟨gb391, 1, none⟩ = some (.int .i64 t386) := (blk_cell BK391.out 1).trans rfl
         have hcz165_2 : wr.cell? ⟨gb391, 2, none⟩ = some (.int .i64 t387) := (blk_cell BK391.out 2).trans rfl
         have hfz165_0 := blk_frozen BK391.out 0
         have hfz165_1 := blk_frozen BK391.out 1
         have hfz165_2 := blk_frozen BK391.out 2
         have hnb166 := NB392_382.out
         have hnc166 := NB382_392.out
         have hnb167 := NB392_383.out
         have hnc167 := NB383_392.out
         have hcz168_0 : wr.cell? ⟨gb392, 0, none⟩ = some (.int .i64 t388) := (blk_cell BK392.out 0).trans rfl
         have hcz168_1 : wr.cell? ⟨gb392, 1, none⟩ = some (.int .i64 t389) := (blk_cell BK392.out 1).trans rfl
         have hcz168_2 : wr.cell? ⟨gb392, 2, none⟩ = some (.int .i64 t390) := (blk_cell BK392.out 2).trans rfl
         have hfz168_0 := blk_frozen BK392.out 0
         have hfz168_1 := blk_frozen BK392.out 1
         have hfz168_2 := blk_frozen BK392.out 2
         go_wp2_with (first | (go_at_call 14; (with_reducible refine (span_Apart.calls k1 t385 t386 t387 t388 t389 t390 true _ A154.out).mono ?_); rintro e w169 ⟨rfl, hb⟩; have n0_ := Aside0.mk (blk_below (g := gb382) (o := .cells #[.int .i64 a0_0, .int .u32 a0_1, .int .u16 a0_2] 25 (0, 0)) (bk_ BK382) hb); have n1_ := Aside0.mk (blk_below (g := gb383) (o := .cells #[.int .i64 a1_0, .int .u32 a1_1, .int .u16 a1_2] 25 (0, 0)) (bk_ BK383) hb); have n2_ := Aside0.mk (blk_below (g := gb391) (o := .cells #[.int .i64 t385, .int .i64 t386, .int .i64 t387] 28 (0, 0)) (bk_ BK391) hb); have n3_ := Aside0.mk (blk_below (g := gb392) (o := .cells #[.int .i64 t388, .int .i64 t389, .int .i64 t390] 28 (0, 0)) (bk_ BK392) hb); have n4_ := Aside0.mk (blk_below (g := gb397) (o := .cells #[.int .i64 t393, .int .i64 t394, .int .i64 t395, .bool false] 31 (0, 0)) (bk_ BK397) hb); have n5_ := Aside0.mk (below_step (bl_ HB) hb); clear BK382; clear BK383; clear BK391; clear BK392; clear BK397; clear HB; have BK382 := n0_; have BK383 := n1_; have BK391 := n2_; have BK392 := n3_; have BK397 := n4_; have HB := n5_; clear n0_ n1_ n2_ n3_ n4_ n5_; (try clear hb); (try clear hb2); (try clear hk); (try clear hi); have hcz170_0 : w169.cell? ⟨gb397, 0, none⟩ = some (.int .i64 t393) := (blk_cell BK397.out 0).trans rfl; have hcz170_1 : w169.cell? ⟨gb397, 1, none⟩ = some (.int .i64 t394) := (blk_cell BK397.out 1).trans rfl; have hcz170_2 : w169.cell? ⟨gb397, 2, none⟩ = some (.int .i64 t395) := (blk_cell BK397.out 2).trans rfl; have hcz170_3 : w169.cell? ⟨gb397, 3, none⟩ = some (.bool false) := (blk_cell BK397.out 3).trans rfl; have hfz170_0 := blk_frozen BK397.out 0; have hfz170_1 := blk_frozen BK397.out 1; have hfz170_2 := blk_frozen BK397.out 2; have hfz170_3 := blk_frozen BK397.out 3))
         go_ret
         exact ⟨by first | rfl | (simp [errW_none, errW_some] <;> rfl) | (simp [*, errW_none, errW_some] <;> rfl), by repeat (first | (with_reducible first | exact HB.out | apply below_alloc | apply pw_below_drewN | apply below_drew1 | refine below_set ?_ GE382.out | refine below_set ?_ GE383.out | refine below_set ?_ GE391.out | refine below_set ?_ GE392.out | refine below_set ?_ GE397.out) | exact HB.out)⟩
        ·rw [if_neg c156] at H
         exact absurd H (by simp)
       ·replace c155 := Bool.eq_false_iff.mpr c155
        subst c155
        have H1 : (none) = some r := by rw [if_neg (show ¬ (false = true) by decide)] at H; exact H
        clear H
        have H := H1
        clear H1
        exact absurd H (by simp)
      ·rw [if_neg c153] at H
       exact absurd H (by simp)
 ·replace c4 := Bool.eq_false_iff.mpr c4
  subst c4
  have H1 : (none) = some r := by rw [if_neg (show ¬ (false = true) by decide)] at H; exact H
  clear H
  have H := H1
  clear H1
  exact absurd H (by simp)

end Go.Proofs.Yteghmmkhfgkdgaa.QS
