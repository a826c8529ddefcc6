-- Written by a program of this session (pp.py) over the kit's printer; Lean checks it.
import Derived.Test.YteghmmkhfgkdgaaQSx0
import Derived.Test.YteghmmkhfgkdgaaQSx1
import Derived.Test.YteghmmkhfgkdgaaQSx2
import Derived.Test.YteghmmkhfgkdgaaQSx4
import Derived.Test.YteghmmkhfgkdgaaQSx6
import Derived.Test.YteghmmkhfgkdgaaQSx9
import Derived.Test.YteghmmkhfgkdgaaQSx12
namespace Go.Proofs.Yteghmmkhfgkdgaa.QS
open Go.RowKit Go.Proofs.YteghmmkhfgkdgaaW.PrintWords Go.Proofs.YteghmmkhfgkdgaaW.PrintLast Go.Proofs.YteghmmkhfgkdgaaW.PrintMore
attribute [local go_sem] max2_int min2_int max_two min_two max_three min_three max_four min_four   -- for this text's walks alone
set_option linter.unusedVariables false
set_option linter.unusedSimpArgs false

attribute [local go_sem high] eqA28 eqA31
/-! ### warpwrightlaw25_SpanGreat: function 4 -/
def warpwrightlaw25_SpanGreat.j0 : Nat → Bool → Int → Int → Int → Int → Int → Int → Option (Bool)
 | 0, _, _, _, _, _, _, _ => none
 | k + 1, x7, x439000, x439001, x439002, x440000, x440001, x440002 => (warpwrightref25_Gcd.f k x439002 x440002).bind fun t454 => (if t454 > 0 then ((warpwrightlaw25_mod.f k x439000 x439001 x439002 t454).bind fun bt455 => ((warpwrightlaw25_mod.f k x440000 x440001 x440002 t454).bind fun bt459 => (if (!(bt455.1 == bt459.1) || (!(bt455.2.1 == bt459.2.1) || (!(bt455.2.2.1 == bt459.2.2.1)))) = true then ((span_Apart.f k x439000 x439001 x439002 x440000 x440001 x440002).bind fun t463 => (if t463 = true then ((span_Apart.f k x439000 x439001 x439002 x440000 x440001 x440002).bind fun t464 => ((span_Apart.f k x440000 x440001 x440002 x439000 x439001 x439002).bind fun t465 => (if (t464 == t465) = true then ((warpwrightlaw25_meet.f k x439000 x439001 x439002 x440000 x440001 x440002).bind fun bt466 => ((warpwrightlaw25_meet.f k x440000 x440001 x440002 x439000 x439001 x439002).bind fun bt470 => (if ((bt466.1 == bt470.1 && (bt466.2.1 == bt470.2.1 && (bt466.2.2.1 == bt470.2.2.1))) && (bt466.2.2.2 == bt470.2.2.2)) = true then (some x7) else (none)))) else (none)))) else (none))) else ((span_Apart.f k x439000 x439001 x439002 x440000 x440001 x440002).bind fun t474 => ((span_Apart.f k x440000 x440001 x440002 x439000 x439001 x439002).bind fun t475 => (if (t474 == t475) = true then ((warpwrightlaw25_meet.f k x439000 x439001 x439002 x440000 x440001 x440002).bind fun bt476 => ((warpwrightlaw25_meet.f k x440000 x440001 x440002 x439000 x439001 x439002).bind fun bt480 => (if ((bt476.1 == bt480.1 && (bt476.2.1 == bt480.2.1 && (bt476.2.2.1 == bt480.2.2.1))) && (bt476.2.2.2 == bt480.2.2.2)) = true then (some x7) else (none)))) else (none))))))) else ((span_Apart.f k x439000 x439001 x439002 x440000 x440001 x440002).bind fun t484 => ((span_Apart.f k x440000 x440001 x440002 x439000 x439001 x439002).bind fun t485 => (if (t484 == t485) = true then ((warpwrightlaw25_meet.f k x439000 x439001 x439002 x440000 x440001 x440002).bind fun bt486 => ((warpwrightlaw25_meet.f k x440000 x440001 x440002 x439000 x439001 x439002).bind fun bt490 => (if ((bt486.1 == bt490.1 && (bt486.2.1 == bt490.2.1 && (bt486.2.2.1 == bt490.2.2.1))) && (bt486.2.2.2 == bt490.2.2.2)) = true then (some x7) else (none)))) else (none)))))
def warpwrightlaw25_SpanGreat.f (k : Nat) (a0_0 : Int) (a0_1 : Int) (a0_2 : Int) (a1_0 : Int) (a1_1 : Int) (a1_2 : Int) (a2_0 : Int) (a2_1 : Int) : Option (Bool) := (warpwrightlaw25_examples.f k).bind fun t431 => (if t431 = true then ((warpwrightref25_Span.f a0_0 a0_1 a0_2).bind fun bt432 => ((warpwrightref25_Span.f a1_0 a1_1 a1_2).bind fun bt435 => ((warpwrightlaw25_pick.f bt432.1 bt432.2.1 bt432.2.2 a2_0).bind fun t440 => ((warpwrightlaw25_pick.f bt435.1 bt435.2.1 bt435.2.2 a2_1).bind fun t441 => ((warpwrightref25_Valid.f k (wrap64 (bt435.1 + (wrap64 (t440 - t441)))) (wrap64 (bt435.2.1 + (wrap64 (t440 - t441)))) bt435.2.2).bind fun t443 => (if t443 = true then ((warpwrightlaw25_meet.f k bt432.1 bt432.2.1 bt432.2.2 (wrap64 (bt435.1 + (wrap64 (t440 - t441)))) (wrap64 (bt435.2.1 + (wrap64 (t440 - t441)))) bt435.2.2).bind fun bt444 => (if bt444.2.2.2 = true then ((warpwrightlaw25_pick.f bt432.1 bt432.2.1 bt432.2.2 a2_0).bind fun t449 => ((span_Has.f bt444.1 bt444.2.1 bt444.2.2.1 t449).bind fun t450 => (if t450 = true then ((warpwrightlaw25_inside.f bt444.1 bt444.2.1 bt444.2.2.1 bt432.1 bt432.2.1 bt432.2.2).bind fun t451 => (if t451 = true then ((warpwrightlaw25_inside.f bt444.1 bt444.2.1 bt444.2.2.1 (wrap64 (bt435.1 + (wrap64 (t440 - t441)))) (wrap64 (bt435.2.1 + (wrap64 (t440 - t441)))) bt435.2.2).bind fun t452 => (if t452 = true then ((span_Apart.f k bt432.1 bt432.2.1 bt432.2.2 (wrap64 (bt435.1 + (wrap64 (t440 - t441)))) (wrap64 (bt435.2.1 + (wrap64 (t440 - t441)))) bt435.2.2).bind fun t453 => (if t453 = true then (none) else (warpwrightlaw25_SpanGreat.j0 k t431 bt432.1 bt432.2.1 bt432.2.2 bt435.1 bt435.2.1 bt435.2.2))) else (none))) else (none))) else (none)))) else (none))) else (warpwrightlaw25_SpanGreat.j0 k t431 bt432.1 bt432.2.1 bt432.2.2 bt435.1 bt435.2.1 bt435.2.2))))))) else (none))
theorem warpwrightlaw25_SpanGreat.mono_l : ∀ k, (∀ y0 y1 y2 y3 y4 y5 y6, LeO (warpwrightlaw25_SpanGreat.j0 k y0 y1 y2 y3 y4 y5 y6) (warpwrightlaw25_SpanGreat.j0 (k + 1) y0 y1 y2 y3 y4 y5 y6))
 | 0 => fun _ _ _ _ _ _ _ r h => by simp [warpwrightlaw25_SpanGreat.j0] at h
 | k + 1 => by
  have ih0 := warpwrightlaw25_SpanGreat.mono_l k
  ·intro y0 y1 y2 y3 y4 y5 y6
   unfold warpwrightlaw25_SpanGreat.j0
   repeat' first
   | (with_reducible exact ih0 _ _ _ _ _ _ _)
   | (with_reducible exact span_Apart.mono _ _ _ _ _ _ _)
   | (with_reducible exact warpwrightlaw25_examples.mono _)
   | (with_reducible exact warpwrightlaw25_meet.mono _ _ _ _ _ _ _)
   | (with_reducible exact warpwrightlaw25_mod.mono _ _ _ _ _)
   | (with_reducible exact warpwrightref25_Gcd.mono _ _ _)
   | (with_reducible exact warpwrightref25_Valid.mono _ _ _ _)
   | (with_reducible exact LeO.refl _)
   | (with_reducible exact LeO.none _)
   | (with_reducible refine LeO.ite ?_ ?_)
   | (with_reducible refine LeO.bind ?_ (fun _ => ?_))
   | exact ih0 _ _ _ _ _ _ _
   | exact span_Apart.mono _ _ _ _ _ _ _
   | exact warpwrightlaw25_examples.mono _
   | exact warpwrightlaw25_meet.mono _ _ _ _ _ _ _
   | exact warpwrightlaw25_mod.mono _ _ _ _ _
   | exact warpwrightref25_Gcd.mono _ _ _
   | exact warpwrightref25_Valid.mono _ _ _ _
   | exact LeO.none _
   | refine LeO.ite ?_ ?_
   | refine LeO.bind ?_ (fun _ => ?_)
theorem warpwrightlaw25_SpanGreat.mono : ∀ a0 a1 a2 a3 a4 a5 a6 a7 k, LeO (warpwrightlaw25_SpanGreat.f k a0 a1 a2 a3 a4 a5 a6 a7) (warpwrightlaw25_SpanGreat.f (k + 1) a0 a1 a2 a3 a4 a5 a6 a7) := by
 intro a0 a1 a2 a3 a4 a5 a6 a7 k
 have ih0 := warpwrightlaw25_SpanGreat.mono_l k
 unfold warpwrightlaw25_SpanGreat.f
 repeat' first
   | (with_reducible exact ih0 _ _ _ _ _ _ _)
   | (with_reducible exact span_Apart.mono _ _ _ _ _ _ _)
   | (with_reducible exact warpwrightlaw25_examples.mono _)
   | (with_reducible exact warpwrightlaw25_meet.mono _ _ _ _ _ _ _)
   | (with_reducible exact warpwrightlaw25_mod.mono _ _ _ _ _)
   | (with_reducible exact warpwrightref25_Gcd.mono _ _ _)
   | (with_reducible exact warpwrightref25_Valid.mono _ _ _ _)
   | (with_reducible exact LeO.refl _)
   | (with_reducible exact LeO.none _)
   | (with_reducible refine LeO.ite ?_ ?_)
   | (with_reducible refine LeO.bind ?_ (fun _ => ?_))
   | exact ih0 _ _ _ _ _ _ _
   | exact span_Apart.mono _ _ _ _ _ _ _
   | exact warpwrightlaw25_examples.mono _
   | exact warpwrightlaw25_meet.mono _ _ _ _ _ _ _
   | exact warpwrightlaw25_mod.mono _ _ _ _ _
   | exact warpwrightref25_Gcd.mono _ _ _
   | exact warpwrightref25_Valid.mono _ _ _ _
   | exact LeO.none _
   | refine LeO.ite ?_ ?_
   | refine LeO.bind ?_ (fun _ => ?_)
def warpwrightlaw25_SpanGreat.T4 : Bool × List (List Nat × List Nat) := (true, [([], []), ([0], [0]), ([], []), ([2, 1], [2]), ([], []), ([], []), ([4, 1, 3, 0, 1, 4, 5], [1, 4]), ([5, 3, 6, 0, 1, 2, 3, 4, 5, 6], [3, 5])])
def warpwrightlaw25_SpanGreat.B4 : List Nat := [0, 1, 0, 7, 0, 0, 63, 127]
theorem warpwrightlaw25_SpanGreat.tab4 : rtab .any (opsOf Try.f4 4) = warpwrightlaw25_SpanGreat.T4 := by kernel_rfl
theorem warpwrightlaw25_SpanGreat.bits4 : waitsOk warpwrightlaw25_SpanGreat.T4.2 warpwrightlaw25_SpanGreat.B4 = true := by kernel_rfl
def warpwrightlaw25_SpanGreat.T5 : Bool × List (List Nat × List Nat) := (true, [([], []), ([], []), ([1], [1]), ([0, 2], [0, 2]), ([], []), ([], []), ([5], [5]), ([4, 6, 3], [4, 6]), ([3, 7], [3, 7]), ([8, 7, 0, 1, 2, 3, 4, 5, 6, 7, 8], [8])])
def warpwrightlaw25_SpanGreat.B5 : List Nat := [0, 0, 2, 7, 0, 0, 32, 127, 255, 511]
theorem warpwrightlaw25_SpanGreat.tab5 : rtab .any (opsOf Try.f4 5) = warpwrightlaw25_SpanGreat.T5 := by kernel_rfl
theorem warpwrightlaw25_SpanGreat.bits5 : waitsOk warpwrightlaw25_SpanGreat.T5.2 warpwrightlaw25_SpanGreat.B5 = true := by kernel_rfl
def warpwrightlaw25_SpanGreat.T9 : Bool × List (List Nat × List Nat) := (true, [([], []), ([0], [0]), ([1], [1]), ([2], [2]), ([3], [3]), ([4, 3], [3, 4]), ([3], [3]), ([3], [3]), ([7, 3], [3, 7]), ([6, 8, 3, 3], [3, 6, 8]), ([5, 9, 9, 3], [3, 5, 9]), ([10, 3], [3, 10]), ([3, 11], [3, 11]), ([12, 10], [12]), ([13], [13]), ([14, 13], [13, 14]), ([13], [13]), ([15, 16, 13, 13], [13, 15, 16]), ([17, 13], [13, 17]), ([13, 18], [13, 18]), ([19, 17], [19]), ([20], [20]), ([21, 20], [20, 21]), ([20], [20]), ([22, 23, 20, 20], [20, 22, 23]), ([24, 20], [20, 24]), ([20, 25], [20, 25]), ([26, 24], [26]), ([27], [27]), ([27], [27]), ([28, 29, 27, 27], [27, 28, 29]), ([27, 30], [27, 30])])
def warpwrightlaw25_SpanGreat.B9 : List Nat := [0, 1, 3, 7, 15, 31, 15, 15, 143, 463, 1023, 2047, 4095, 8191, 16383, 32767, 16383, 131071, 262143, 524287, 1048575, 2097151, 4194303, 2097151, 16777215, 33554431, 67108863, 134217727, 268435455, 268435455, 1073741823, 2147483647]
theorem warpwrightlaw25_SpanGreat.tab9 : rtab .any (opsOf Try.f4 9) = warpwrightlaw25_SpanGreat.T9 := by kernel_rfl
theorem warpwrightlaw25_SpanGreat.bits9 : waitsOk warpwrightlaw25_SpanGreat.T9.2 warpwrightlaw25_SpanGreat.B9 = true := by kernel_rfl
def warpwrightlaw25_SpanGreat.T12 : Bool × List (List Nat × List Nat) := (true, [([], []), ([0], [0]), ([1], [1]), ([2], [2]), ([2], [2]), ([3, 4, 2, 2], [2, 3, 4]), ([5, 2], [2, 5]), ([2], [2]), ([2], [2]), ([7, 8, 5, 2], [2, 7, 8]), ([9, 2], [2, 9]), ([6, 10, 2], [2, 6, 10]), ([2, 11], [2, 11]), ([12, 9], [12]), ([13], [13]), ([13], [13]), ([14, 15, 13, 13], [13, 14, 15]), ([16, 13], [13, 16]), ([13, 17], [13, 17])])
def warpwrightlaw25_SpanGreat.B12 : List Nat := [0, 1, 3, 7, 7, 31, 63, 7, 7, 447, 959, 2047, 4095, 8191, 16383, 16383, 65535, 131071, 262143]
theorem warpwrightlaw25_SpanGreat.tab12 : rtab .any (opsOf Try.f4 12) = warpwrightlaw25_SpanGreat.T12 := by kernel_rfl
theorem warpwrightlaw25_SpanGreat.bits12 : waitsOk warpwrightlaw25_SpanGreat.T12.2 warpwrightlaw25_SpanGreat.B12 = true := by kernel_rfl
def warpwrightlaw25_SpanGreat.T14 : Bool × List (List Nat × List Nat) := (true, [([], []), ([], []), ([0, 1], [0, 1]), ([], []), ([], []), ([3, 4, 2], [3, 4]), ([2, 5], [2, 5]), ([6, 5], [6]), ([7], [7]), ([7], [7]), ([8, 9, 7, 7], [7, 8, 9]), ([7], [7]), ([7], [7]), ([11, 12, 10, 7], [7, 11, 12]), ([10, 13, 7], [7, 10, 13]), ([7, 14], [7, 14]), ([15, 13], [15]), ([16], [16]), ([16, 17], [16, 17]), ([18, 16, 0, 1, 2, 3, 4, 5, 6, 7, 8, 9, 10, 11, 12, 13, 14, 15, 16, 17, 18], [18])])
def warpwrightlaw25_SpanGreat.B14 : List Nat := [0, 0, 3, 0, 0, 31, 63, 127, 255, 255, 1023, 255, 255, 8191, 16383, 32767, 65535, 131071, 262143, 524287]
theorem warpwrightlaw25_SpanGreat.tab14 : rtab .any (opsOf Try.f4 14) = warpwrightlaw25_SpanGreat.T14 := by kernel_rfl
theorem warpwrightlaw25_SpanGreat.bits14 : waitsOk warpwrightlaw25_SpanGreat.T14.2 warpwrightlaw25_SpanGreat.B14 = true := by kernel_rfl
set_option maxHeartbeats 8000000 in
set_option maxRecDepth 100000 in
theorem warpwrightlaw25_SpanGreat.calls (k : Nat) (a0_0 : Int) (a0_1 : Int) (a0_2 : Int) (a1_0 : Int) (a1_1 : Int) (a1_2 : Int) (a2_0 : Int) (a2_1 : Int) (r : Bool) (w : World) (h : warpwrightlaw25_SpanGreat.f k a0_0 a0_1 a0_2 a1_0 a1_1 a1_2 a2_0 a2_1 = some r) :
  Calls Try.prog 4 #[.agg #[.int .i64 a0_0, .int .u32 a0_1, .int .u16 a0_2], .agg #[.int .i64 a1_0, .int .u32 a1_1, .int .u16 a1_2], .agg #[.int .u16 a2_0, .int .u16 a2_1]] w fun e w' => e = .returned (.bool r) ∧ Below w.heap.size w w' := by
 have hu25 := Try.underlying25
 have hu38 := Try.underlying38
 have hu28 := Try.underlying28
 have hu31 := Try.underlying31
 have hu43 := Try.underlying43
 have hfd43_0 : ∀ (x0_ x1_ x2_ x3_ : Value) (W_ : World), (Instr.field 43 (.agg #[x0_, x1_, x2_, x3_]) 0).run Try.prog W_ = .ok (.agg #[x0_, x1_, x2_]) W_ := fun _ _ _ _ _ => by kernel_rfl
 have HB := Aside0.mk (Below.refl w.heap.size w)
 have H : ((warpwrightlaw25_examples.f k).bind fun t431 => (if t431 = true then ((warpwrightref25_Span.f a0_0 a0_1 a0_2).bind fun bt432 => ((warpwrightref25_Span.f a1_0 a1_1 a1_2).bind fun bt435 => ((warpwrightlaw25_pick.f bt432.1 bt432.2.1 bt432.2.2 a2_0).bind fun t440 => ((warpwrightlaw25_pick.f bt435.1 bt435.2.1 bt435.2.2 a2_1).bind fun t441 => ((warpwrightref25_Valid.f k (wrap64 (bt435.1 + (wrap64 (t440 - t441)))) (wrap64 (bt435.2.1 + (wrap64 (t440 - t441)))) bt435.2.2).bind fun t443 => (if t443 = true then ((warpwrightlaw25_meet.f k bt432.1 bt432.2.1 bt432.2.2 (wrap64 (bt435.1 + (wrap64 (t440 - t441)))) (wrap64 (bt435.2.1 + (wrap64 (t440 - t441)))) bt435.2.2).bind fun bt444 => (if bt444.2.2.2 = true then ((warpwrightlaw25_pick.f bt432.1 bt432.2.1 bt432.2.2 a2_0).bind fun t449 => ((span_Has.f bt444.1 bt444.2.1 bt444.2.2.1 t449).bind fun t450 => (if t450 = true then ((warpwrightlaw25_inside.f bt444.1 bt444.2.1 bt444.2.2.1 bt432.1 bt432.2.1 bt432.2.2).bind fun t451 => (if t451 = true then ((warpwrightlaw25_inside.f bt444.1 bt444.2.1 bt444.2.2.1 (wrap64 (bt435.1 + (wrap64 (t440 - t441)))) (wrap64 (bt435.2.1 + (wrap64 (t440 - t441)))) bt435.2.2).bind fun t452 => (if t452 = true then ((span_Apart.f k bt432.1 bt432.2.1 bt432.2.2 (wrap64 (bt435.1 + (wrap64 (t440 - t441)))) (wrap64 (bt435.2.1 + (wrap64 (t440 - t441)))) bt435.2.2).bind fun t453 => (if t453 = true then (none) else (warpwrightlaw25_SpanGreat.j0 k t431 bt432.1 bt432.2.1 bt432.2.2 bt435.1 bt435.2.1 bt435.2.2))) else (none))) else (none))) else (none)))) else (none))) else (warpwrightlaw25_SpanGreat.j0 k t431 bt432.1 bt432.2.1 bt432.2.2 bt435.1 bt435.2.1 bt435.2.2))))))) else (none))) = some r := h
 clear h
 replace H := Option.bind_eq_some_iff.mp H
 obtain ⟨t431, A40, H⟩ := H
 replace H : (if t431 = true then ((warpwrightref25_Span.f a0_0 a0_1 a0_2).bind fun bt432 => ((warpwrightref25_Span.f a1_0 a1_1 a1_2).bind fun bt435 => ((warpwrightlaw25_pick.f bt432.1 bt432.2.1 bt432.2.2 a2_0).bind fun t440 => ((warpwrightlaw25_pick.f bt435.1 bt435.2.1 bt435.2.2 a2_1).bind fun t441 => ((warpwrightref25_Valid.f k (wrap64 (bt435.1 + (wrap64 (t440 - t441)))) (wrap64 (bt435.2.1 + (wrap64 (t440 - t441)))) bt435.2.2).bind fun t443 => (if t443 = true then ((warpwrightlaw25_meet.f k bt432.1 bt432.2.1 bt432.2.2 (wrap64 (bt435.1 + (wrap64 (t440 - t441)))) (wrap64 (bt435.2.1 + (wrap64 (t440 - t441)))) bt435.2.2).bind fun bt444 => (if bt444.2.2.2 = true then ((warpwrightlaw25_pick.f bt432.1 bt432.2.1 bt432.2.2 a2_0).bind fun t449 => ((span_Has.f bt444.1 bt444.2.1 bt444.2.2.1 t449).bind fun t450 => (if t450 = true then ((warpwrightlaw25_inside.f bt444.1 bt444.2.1 bt444.2.2.1 bt432.1 bt432.2.1 bt432.2.2).bind fun t451 => (if t451 = true then ((warpwrightlaw25_inside.f bt444.1 bt444.2.1 bt444.2.2.1 (wrap64 (bt435.1 + (wrap64 (t440 - t441)))) (wrap64 (bt435.2.1 + (wrap64 (t440 - t441)))) bt435.2.2).bind fun t452 => (if t452 = true then ((span_Apart.f k bt432.1 bt432.2.1 bt432.2.2 (wrap64 (bt435.1 + (wrap64 (t440 - t441)))) (wrap64 (bt435.2.1 + (wrap64 (t440 - t441)))) bt435.2.2).bind fun t453 => (if t453 = true then (none) else (warpwrightlaw25_SpanGreat.j0 k t431 bt432.1 bt432.2.1 bt432.2.2 bt435.1 bt435.2.1 bt435.2.2))) else (none))) else (none))) else (none)))) else (none))) else (warpwrightlaw25_SpanGreat.j0 k t431 bt432.1 bt432.2.1 bt432.2.2 bt435.1 bt435.2.1 bt435.2.2))))))) else (none)) = some r := H
 have A4 := Aside0.mk A40
 clear A40
 by_cases c5 : t431 = true
 ·subst c5
  have H1 : ((warpwrightref25_Span.f a0_0 a0_1 a0_2).bind fun bt432 => ((warpwrightref25_Span.f a1_0 a1_1 a1_2).bind fun bt435 => ((warpwrightlaw25_pick.f bt432.1 bt432.2.1 bt432.2.2 a2_0).bind fun t440 => ((warpwrightlaw25_pick.f bt435.1 bt435.2.1 bt435.2.2 a2_1).bind fun t441 => ((warpwrightref25_Valid.f k (wrap64 (bt435.1 + (wrap64 (t440 - t441)))) (wrap64 (bt435.2.1 + (wrap64 (t440 - t441)))) bt435.2.2).bind fun t443 => (if t443 = true then ((warpwrightlaw25_meet.f k bt432.1 bt432.2.1 bt432.2.2 (wrap64 (bt435.1 + (wrap64 (t440 - t441)))) (wrap64 (bt435.2.1 + (wrap64 (t440 - t441)))) bt435.2.2).bind fun bt444 => (if bt444.2.2.2 = true then ((warpwrightlaw25_pick.f bt432.1 bt432.2.1 bt432.2.2 a2_0).bind fun t449 => ((span_Has.f bt444.1 bt444.2.1 bt444.2.2.1 t449).bind fun t450 => (if t450 = true then ((warpwrightlaw25_inside.f bt444.1 bt444.2.1 bt444.2.2.1 bt432.1 bt432.2.1 bt432.2.2).bind fun t451 => (if t451 = true then ((warpwrightlaw25_inside.f bt444.1 bt444.2.1 bt444.2.2.1 (wrap64 (bt435.1 + (wrap64 (t440 - t441)))) (wrap64 (bt435.2.1 + (wrap64 (t440 - t441)))) bt435.2.2).bind fun t452 => (if t452 = true then ((span_Apart.f k bt432.1 bt432.2.1 bt432.2.2 (wrap64 (bt435.1 + (wrap64 (t440 - t441)))) (wrap64 (bt435.2.1 + (wrap64 (t440 - t441)))) bt435.2.2).bind fun t453 => (if t453 = true then (none) else (warpwrightlaw25_SpanGreat.j0 k true bt432.1 bt432.2.1 bt432.2.2 bt435.1 bt435.2.1 bt435.2.2))) else (none))) else (none))) else (none)))) else (none))) else (warpwrightlaw25_SpanGreat.j0 k true bt432.1 bt432.2.1 bt432.2.2 bt435.1 bt435.2.1 bt435.2.2))))))) = some r := by rw [if_pos rfl] at H; exact H
  clear H
  have H := H1
  clear H1
  replace H := Option.bind_eq_some_iff.mp H
  obtain ⟨⟨t432, t433, t434⟩, A60, H⟩ := H
  replace H : ((warpwrightref25_Span.f a1_0 a1_1 a1_2).bind fun bt435 => ((warpwrightlaw25_pick.f t432 t433 t434 a2_0).bind fun t440 => ((warpwrightlaw25_pick.f bt435.1 bt435.2.1 bt435.2.2 a2_1).bind fun t441 => ((warpwrightref25_Valid.f k (wrap64 (bt435.1 + (wrap64 (t440 - t441)))) (wrap64 (bt435.2.1 + (wrap64 (t440 - t441)))) bt435.2.2).bind fun t443 => (if t443 = true then ((warpwrightlaw25_meet.f k t432 t433 t434 (wrap64 (bt435.1 + (wrap64 (t440 - t441)))) (wrap64 (bt435.2.1 + (wrap64 (t440 - t441)))) bt435.2.2).bind fun bt444 => (if bt444.2.2.2 = true then ((warpwrightlaw25_pick.f t432 t433 t434 a2_0).bind fun t449 => ((span_Has.f bt444.1 bt444.2.1 bt444.2.2.1 t449).bind fun t450 => (if t450 = true then ((warpwrightlaw25_inside.f bt444.1 bt444.2.1 bt444.2.2.1 t432 t433 t434).bind fun t451 => (if t451 = true then ((warpwrightlaw25_inside.f bt444.1 bt444.2.1 bt444.2.2.1 (wrap64 (bt435.1 + (wrap64 (t440 - t441)))) (wrap64 (bt435.2.1 + (wrap64 (t440 - t441)))) bt435.2.2).bind fun t452 => (if t452 = true then ((span_Apart.f k t432 t433 t434 (wrap64 (bt435.1 + (wrap64 (t440 - t441)))) (wrap64 (bt435.2.1 + (wrap64 (t440 - t441)))) bt435.2.2).bind fun t453 => (if t453 = true then (none) else (warpwrightlaw25_SpanGreat.j0 k true t432 t433 t434 bt435.1 bt435.2.1 bt435.2.2))) else (none))) else (none))) else (none)))) else (none))) else (warpwrightlaw25_SpanGreat.j0 k true t432 t433 t434 bt435.1 bt435.2.1 bt435.2.2)))))) = some r := H
  have A6 := Aside0.mk A60
  clear A60
  replace H := Option.bind_eq_some_iff.mp H
  obtain ⟨⟨t435, t436, t437⟩, A70, H⟩ := H
  replace H : ((warpwrightlaw25_pick.f t432 t433 t434 a2_0).bind fun t440 => ((warpwrightlaw25_pick.f t435 t436 t437 a2_1).bind fun t441 => ((warpwrightref25_Valid.f k (wrap64 (t435 + (wrap64 (t440 - t441)))) (wrap64 (t436 + (wrap64 (t440 - t441)))) t437).bind fun t443 => (if t443 = true then ((warpwrightlaw25_meet.f k t432 t433 t434 (wrap64 (t435 + (wrap64 (t440 - t441)))) (wrap64 (t436 + (wrap64 (t440 - t441)))) t437).bind fun bt444 => (if bt444.2.2.2 = true then ((warpwrightlaw25_pick.f t432 t433 t434 a2_0).bind fun t449 => ((span_Has.f bt444.1 bt444.2.1 bt444.2.2.1 t449).bind fun t450 => (if t450 = true then ((warpwrightlaw25_inside.f bt444.1 bt444.2.1 bt444.2.2.1 t432 t433 t434).bind fun t451 => (if t451 = true then ((warpwrightlaw25_inside.f bt444.1 bt444.2.1 bt444.2.2.1 (wrap64 (t435 + (wrap64 (t440 - t441)))) (wrap64 (t436 + (wrap64 (t440 - t441)))) t437).bind fun t452 => (if t452 = true then ((span_Apart.f k t432 t433 t434 (wrap64 (t435 + (wrap64 (t440 - t441)))) (wrap64 (t436 + (wrap64 (t440 - t441)))) t437).bind fun t453 => (if t453 = true then (none) else (warpwrightlaw25_SpanGreat.j0 k true t432 t433 t434 t435 t436 t437))) else (none))) else (none))) else (none)))) else (none))) else (warpwrightlaw25_SpanGreat.j0 k true t432 t433 t434 t435 t436 t437))))) = some r := H
  have A7 := Aside0.mk A70
  clear A70
  replace H := Option.bind_eq_some_iff.mp H
  obtain ⟨t440, A80, H⟩ := H
  replace H : ((warpwrightlaw25_pick.f t435 t436 t437 a2_1).bind fun t441 => ((warpwrightref25_Valid.f k (wrap64 (t435 + (wrap64 (t440 - t441)))) (wrap64 (t436 + (wrap64 (t440 - t441)))) t437).bind fun t443 => (if t443 = true then ((warpwrightlaw25_meet.f k t432 t433 t434 (wrap64 (t435 + (wrap64 (t440 - t441)))) (wrap64 (t436 + (wrap64 (t440 - t441)))) t437).bind fun bt444 => (if bt444.2.2.2 = true then ((warpwrightlaw25_pick.f t432 t433 t434 a2_0).bind fun t449 => ((span_Has.f bt444.1 bt444.2.1 bt444.2.2.1 t449).bind fun t450 => (if t450 = true then ((warpwrightlaw25_inside.f bt444.1 bt444.2.1 bt444.2.2.1 t432 t433 t434).bind fun t451 => (if t451 = true then ((warpwrightlaw25_inside.f bt444.1 bt444.2.1 bt444.2.2.1 (wrap64 (t435 + (wrap64 (t440 - t441)))) (wrap64 (t436 + (wrap64 (t440 - t441)))) t437).bind fun t452 => (if t452 = true then ((span_Apart.f k t432 t433 t434 (wrap64 (t435 + (wrap64 (t440 - t441)))) (wrap64 (t436 + (wrap64 (t440 - t441)))) t437).bind fun t453 => (if t453 = true then (none) else (warpwrightlaw25_SpanGreat.j0 k true t432 t433 t434 t435 t436 t437))) else (none))) else (none))) else (none)))) else (none))) else (warpwrightlaw25_SpanGreat.j0 k true t432 t433 t434 t435 t436 t437)))) = some r := H
  have A8 := Aside0.mk A80
  clear A80
  replace H := Option.bind_eq_some_iff.mp H
  obtain ⟨t441, A90, H⟩ := H
  replace H : ((warpwrightref25_Valid.f k (wrap64 (t435 + (wrap64 (t440 - t441)))) (wrap64 (t436 + (wrap64 (t440 - t441)))) t437).bind fun t443 => (if t443 = true then ((warpwrightlaw25_meet.f k t432 t433 t434 (wrap64 (t435 + (wrap64 (t440 - t441)))) (wrap64 (t436 + (wrap64 (t440 - t441)))) t437).bind fun bt444 => (if bt444.2.2.2 = true then ((warpwrightlaw25_pick.f t432 t433 t434 a2_0).bind fun t449 => ((span_Has.f bt444.1 bt444.2.1 bt444.2.2.1 t449).bind fun t450 => (if t450 = true then ((warpwrightlaw25_inside.f bt444.1 bt444.2.1 bt444.2.2.1 t432 t433 t434).bind fun t451 => (if t451 = true then ((warpwrightlaw25_inside.f bt444.1 bt444.2.1 bt444.2.2.1 (wrap64 (t435 + (wrap64 (t440 - t441)))) (wrap64 (t436 + (wrap64 (t440 - t441)))) t437).bind fun t452 => (if t452 = true then ((span_Apart.f k t432 t433 t434 (wrap64 (t435 + (wrap64 (t440 - t441)))) (wrap64 (t436 + (wrap64 (t440 - t441)))) t437).bind fun t453 => (if t453 = true then (none) else (warpwrightlaw25_SpanGreat.j0 k true t432 t433 t434 t435 t436 t437))) else (none))) else (none))) else (none)))) else (none))) else (warpwrightlaw25_SpanGreat.j0 k true t432 t433 t434 t435 t436 t437))) = some r := H
  have A9 := Aside0.mk A90
  clear A90
  replace H := Option.bind_eq_some_iff.mp H
  obtain ⟨t443, A100, H⟩ := H
  replace H : (if t443 = true then ((warpwrightlaw25_meet.f k t432 t433 t434 (wrap64 (t435 + (wrap64 (t440 - t441)))) (wrap64 (t436 + (wrap64 (t440 - t441)))) t437).bind fun bt444 => (if bt444.2.2.2 = true then ((warpwrightlaw25_pick.f t432 t433 t434 a2_0).bind fun t449 => ((span_Has.f bt444.1 bt444.2.1 bt444.2.2.1 t449).bind fun t450 => (if t450 = true then ((warpwrightlaw25_inside.f bt444.1 bt444.2.1 bt444.2.2.1 t432 t433 t434).bind fun t451 => (if t451 = true then ((warpwrightlaw25_inside.f bt444.1 bt444.2.1 bt444.2.2.1 (wrap64 (t435 + (wrap64 (t440 - t441)))) (wrap64 (t436 + (wrap64 (t440 - t441)))) t437).bind fun t452 => (if t452 = true then ((span_Apart.f k t432 t433 t434 (wrap64 (t435 + (wrap64 (t440 - t441)))) (wrap64 (t436 + (wrap64 (t440 - t441)))) t437).bind fun t453 => (if t453 = true then (none) else (warpwrightlaw25_SpanGreat.j0 k true t432 t433 t434 t435 t436 t437))) else (none))) else (none))) else (none)))) else (none))) else (warpwrightlaw25_SpanGreat.j0 k true t432 t433 t434 t435 t436 t437)) = some r := H
  have A10 := Aside0.mk A100
  clear A100
  have HC11 := Aside0.mk H
  clear H
  go_enter Try.func4, Try.ntmps4
  try go_wp2_with (first | ((with_reducible refine gate_dst (N := 3) rfl ?_); refine box_event ?hg (N := 3) ?hd (cs := #[.int .i64 a0_0, .int .u32 a0_1, .int .u16 a0_2]) (t := 25) ?hr ?_; (case hd => rfl); (case hg => rfl); (case hr => first | (go_simp; done) | (go_simp; rfl)); intro gb428 hg w12 hbox hb; have BK428 := Aside0.mk (hbox); have GW428 := Aside0.mk ((by rw [hg]; exact (below_size (bl_ HB)) : w.heap.size ≤ gb428)); have GE428 := Aside0.mk ((by rw [hg]; exact (below_size (bl_ HB)) : w.heap.size ≤ gb428)); replace HB := Aside0.mk (below_step (bl_ HB) hb); clear hb hbox hg) | ((with_reducible refine gate_dst (N := 4) rfl ?_); refine box_event ?hg (N := 4) ?hd (cs := #[.int .i64 a1_0, .int .u32 a1_1, .int .u16 a1_2]) (t := 25) ?hr ?_; (case hd => rfl); (case hg => rfl); (case hr => first | (go_simp; done) | (go_simp; rfl)); intro gb429 hg w13 hbox hb; have BK429 := Aside0.mk (hbox); have GW429 := Aside0.mk ((by rw [hg]; exact (below_size (bl_ HB)) : w.heap.size ≤ gb429)); have GE429 := Aside0.mk ((by rw [hg]; exact (below_size (bl_ HB)) : w.heap.size ≤ gb429)); have NB428_429 := Aside0.mk (nl_ hg BK428); have NB429_428 := Aside0.mk (ng_ hg BK428); replace BK428 := Aside0.mk (bb_ BK428 hb); replace HB := Aside0.mk (below_step (bl_ HB) hb); clear hb hbox hg) | ((with_reducible refine gate_dst (N := 5) rfl ?_); refine box_event ?hg (N := 5) ?hd (cs := #[.int .u16 a2_0, .int .u16 a2_1]) (t := 38) ?hr ?_; (case hd => rfl); (case hg => rfl); (case hr => first | (go_simp; done) | (go_simp; rfl)); intro gb430 hg w14 hbox hb; have BK430 := Aside0.mk (hbox); have GW430 := Aside0.mk ((by rw [hg]; exact (below_size (bl_ HB)) : w.heap.size ≤ gb430)); have GE430 := Aside0.mk ((by rw [hg]; exact (below_size (bl_ HB)) : w.heap.size ≤ gb430)); have NB428_430 := Aside0.mk (nl_ hg BK428); have NB430_428 := Aside0.mk (ng_ hg BK428); have NB429_430 := Aside0.mk (nl_ hg BK429); have NB430_429 := Aside0.mk (ng_ hg BK429); replace BK428 := Aside0.mk (bb_ BK428 hb); replace BK429 := Aside0.mk (bb_ BK429 hb); replace HB := Aside0.mk (below_step (bl_ HB) hb); clear hb hbox hg) | ((with_reducible refine gate_callee (f := 10) rfl ?_); refine goesL_ (some 14) rfl rfl Try.func10 (by kernel_rfl) rfl #[] rfl am_ ?_; (with_reducible refine (warpwrightlaw25_examples.calls k  true _ A4.out).mono ?_); rintro e w15 ⟨rfl, hb⟩; refine ⟨_, rfl, ?_⟩; replace BK428 := Aside0.mk (bb_ BK428 hb); replace BK429 := Aside0.mk (bb_ BK429 hb); replace BK430 := Aside0.mk (bb_ BK430 hb); replace HB := Aside0.mk (below_step (bl_ HB) hb); (try clear hb); (try clear hb2); (try clear hk); (try clear hi)))
  replace BK428 := Aside0.mk (blk_drew BK428.out)
  replace BK429 := Aside0.mk (blk_drew BK429.out)
  replace BK430 := Aside0.mk (blk_drew BK430.out)
  replace HB := Aside0.mk (below_drew1 HB.out)
  refine start_ (n := 8) (S := fun w' => w'.cell? ⟨gb428, 0, none⟩ = some (.int .i64 a0_0) ∧ w'.cell? ⟨gb428, 1, none⟩ = some (.int .u32 a0_1) ∧ w'.cell? ⟨gb428, 2, none⟩ = some (.int .u16 a0_2) ∧ w'.cell? ⟨gb429, 0, none⟩ = some (.int .i64 a1_0) ∧ w'.cell? ⟨gb429, 1, none⟩ = some (.int .u32 a1_1) ∧ w'.cell? ⟨gb429, 2, none⟩ = some (.int .u16 a1_2)) (ds := []) #[false, false, false, false, false, false, false, false] (by kernel_rfl) rfl rfl ⟨(blk_cell BK428.out 0).trans rfl, (blk_cell BK428.out 1).trans rfl, (blk_cell BK428.out 2).trans rfl, (blk_cell BK429.out 0).trans rfl, (blk_cell BK429.out 1).trans rfl, (blk_cell BK429.out 2).trans rfl⟩ (fun hHeld => ?_); refine with_tabW warpwrightlaw25_SpanGreat.tab4 warpwrightlaw25_SpanGreat.bits4 (fun HT_ HW_ => ?_)
  generalize w15.drew = w16 at BK428 BK429 BK430 HB hHeld ⊢
  refine take_ (i := 0) (N := some 17) (v := ?_) (a' := ?_) #[true, false, false, false, false, false, false, false] rfl rfl (take_ofW HT_.out HW_.out (by kernel_rfl)) (fun _ _ _ h => h) (Or.inl ⟨by rfl, ?_⟩) hHeld ?_ ?_
  rotate_left
  ·rintro w' ⟨s0, s1, s2, s3, s4, s5⟩
   go_simp
   with_reducible rfl
  rotate_left
  ·simp only [Act.put, List.setIfInBounds_toArray, List.set_cons_zero, List.set_cons_succ, i64_w, i32_w]
   rfl
  refine take_ (i := 2) (N := some 19) (v := ?_) (a' := ?_) #[true, false, true, false, false, false, false, false] rfl rfl (take_ofW HT_.out HW_.out (by kernel_rfl)) (fun _ _ _ h => h) (Or.inl ⟨by rfl, ?_⟩) hHeld ?_ ?_
  rotate_left
  ·rintro w' ⟨s0, s1, s2, s3, s4, s5⟩
   go_simp
   with_reducible rfl
  rotate_left
  ·simp only [Act.put, List.setIfInBounds_toArray, List.set_cons_zero, List.set_cons_succ, i64_w, i32_w]
   rfl
  refine join_ (σ := Nat × Nat) 2 #[true, true, true, true, true, true, false, false] (fun s_ => [(18, .agg #[.int .i64 t432, .int .i64 t433, .int .i64 t434]), (20, .agg #[.int .i64 t435, .int .i64 t436, .int .i64 t437]), (8, .pointer (some ⟨s_.1, 0, none⟩)), (9, .pointer (some ⟨s_.2, 0, none⟩))]) (fun s_ w' => (w'.cell? ⟨gb428, 0, none⟩ = some (.int .i64 a0_0) ∧ w'.cell? ⟨gb428, 1, none⟩ = some (.int .u32 a0_1) ∧ w'.cell? ⟨gb428, 2, none⟩ = some (.int .u16 a0_2) ∧ w'.cell? ⟨gb429, 0, none⟩ = some (.int .i64 a1_0) ∧ w'.cell? ⟨gb429, 1, none⟩ = some (.int .u32 a1_1) ∧ w'.cell? ⟨gb429, 2, none⟩ = some (.int .u16 a1_2)) ∧ (w'.heap[gb428]? = some (.cells #[.int .i64 a0_0, .int .u32 a0_1, .int .u16 a0_2] 25 (0, 0))) ∧ (w'.heap[gb429]? = some (.cells #[.int .i64 a1_0, .int .u32 a1_1, .int .u16 a1_2] 25 (0, 0))) ∧ (w'.heap[gb430]? = some (.cells #[.int .u16 a2_0, .int .u16 a2_1] 38 (0, 0))) ∧ (w'.heap[s_.1]? = some (.cells #[.int .i64 0, .int .i64 0, .int .i64 0] 28 (0, 0))) ∧ (w'.heap[s_.2]? = some (.cells #[.int .i64 0, .int .i64 0, .int .i64 0] 28 (0, 0))) ∧ (w.heap.size ≤ s_.1) ∧ (w.heap.size ≤ s_.1) ∧ (gb428 ≠ s_.1) ∧ (s_.1 ≠ gb428) ∧ (gb429 ≠ s_.1) ∧ (s_.1 ≠ gb429) ∧ (gb430 ≠ s_.1) ∧ (s_.1 ≠ gb430) ∧ (s_.2 ≠ s_.1) ∧ (s_.1 ≠ s_.2) ∧ (w.heap.size ≤ s_.2) ∧ (w.heap.size ≤ s_.2) ∧ (gb428 ≠ s_.2) ∧ (s_.2 ≠ gb428) ∧ (gb429 ≠ s_.2) ∧ (s_.2 ≠ gb429) ∧ (gb430 ≠ s_.2) ∧ (s_.2 ≠ gb430) ∧ (Below w.heap.size w w')) ?_ ?_
  rotate_left
  ·intro hJ1_3_4_5
   refine join_ (σ := Nat) 3 #[true, true, true, true, true, false, false, false] (fun s_ => [(18, .agg #[.int .i64 t432, .int .i64 t433, .int .i64 t434]), (20, .agg #[.int .i64 t435, .int .i64 t436, .int .i64 t437]), (8, .pointer (some ⟨s_, 0, none⟩))]) (fun s_ w' => (w'.cell? ⟨gb428, 0, none⟩ = some (.int .i64 a0_0) ∧ w'.cell? ⟨gb428, 1, none⟩ = some (.int .u32 a0_1) ∧ w'.cell? ⟨gb428, 2, none⟩ = some (.int .u16 a0_2) ∧ w'.cell? ⟨gb429, 0, none⟩ = some (.int .i64 a1_0) ∧ w'.cell? ⟨gb429, 1, none⟩ = some (.int .u32 a1_1) ∧ w'.cell? ⟨gb429, 2, none⟩ = some (.int .u16 a1_2)) ∧ (w'.heap[gb428]? = some (.cells #[.int .i64 a0_0, .int .u32 a0_1, .int .u16 a0_2] 25 (0, 0))) ∧ (w'.heap[gb429]? = some (.cells #[.int .i64 a1_0, .int .u32 a1_1, .int .u16 a1_2] 25 (0, 0))) ∧ (w'.heap[gb430]? = some (.cells #[.int .u16 a2_0, .int .u16 a2_1] 38 (0, 0))) ∧ (w'.heap[s_]? = some (.cells #[.int .i64 0, .int .i64 0, .int .i64 0] 28 (0, 0))) ∧ (w.heap.size ≤ s_) ∧ (w.heap.size ≤ s_) ∧ (gb428 ≠ s_) ∧ (s_ ≠ gb428) ∧ (gb429 ≠ s_) ∧ (s_ ≠ gb429) ∧ (gb430 ≠ s_) ∧ (s_ ≠ gb430) ∧ (Below w.heap.size w w')) ?_ ?_
   rotate_left
   ·intro hJ1_3_4
    refine join_ (σ := Nat) 3 #[true, true, true, true, false, true, false, false] (fun s_ => [(18, .agg #[.int .i64 t432, .int .i64 t433, .int .i64 t434]), (20, .agg #[.int .i64 t435, .int .i64 t436, .int .i64 t437]), (9, .pointer (some ⟨s_, 0, none⟩))]) (fun s_ w' => (w'.cell? ⟨gb428, 0, none⟩ = some (.int .i64 a0_0) ∧ w'.cell? ⟨gb428, 1, none⟩ = some (.int .u32 a0_1) ∧ w'.cell? ⟨gb428, 2, none⟩ = some (.int .u16 a0_2) ∧ w'.cell? ⟨gb429, 0, none⟩ = some (.int .i64 a1_0) ∧ w'.cell? ⟨gb429, 1, none⟩ = some (.int .u32 a1_1) ∧ w'.cell? ⟨gb429, 2, none⟩ = some (.int .u16 a1_2)) ∧ (w'.heap[gb428]? = some (.cells #[.int .i64 a0_0, .int .u32 a0_1, .int .u16 a0_2] 25 (0, 0))) ∧ (w'.heap[gb429]? = some (.cells #[.int .i64 a1_0, .int .u32 a1_1, .int .u16 a1_2] 25 (0, 0))) ∧ (w'.heap[gb430]? = some (.cells #[.int .u16 a2_0, .int .u16 a2_1] 38 (0, 0))) ∧ (w'.heap[s_]? = some (.cells #[.int .i64 0, .int .i64 0, .int .i64 0] 28 (0, 0))) ∧ (w.heap.size ≤ s_) ∧ (w.heap.size ≤ s_) ∧ (gb428 ≠ s_) ∧ (s_ ≠ gb428) ∧ (gb429 ≠ s_) ∧ (s_ ≠ gb429) ∧ (gb430 ≠ s_) ∧ (s_ ≠ gb430) ∧ (Below w.heap.size w w')) ?_ ?_
    rotate_left
    ·intro hJ1_3_5
     refine join_ (σ := Nat × Nat) 3 #[true, true, true, false, true, true, false, false] (fun s_ => [(18, .agg #[.int .i64 t432, .int .i64 t433, .int .i64 t434]), (8, .pointer (some ⟨s_.1, 0, none⟩)), (9, .pointer (some ⟨s_.2, 0, none⟩))]) (fun s_ w' => (w'.cell? ⟨gb428, 0, none⟩ = some (.int .i64 a0_0) ∧ w'.cell? ⟨gb428, 1, none⟩ = some (.int .u32 a0_1) ∧ w'.cell? ⟨gb428, 2, none⟩ = some (.int .u16 a0_2) ∧ w'.cell? ⟨gb429, 0, none⟩ = some (.int .i64 a1_0) ∧ w'.cell? ⟨gb429, 1, none⟩ = some (.int .u32 a1_1) ∧ w'.cell? ⟨gb429, 2, none⟩ = some (.int .u16 a1_2)) ∧ (w'.heap[gb428]? = some (.cells #[.int .i64 a0_0, .int .u32 a0_1, .int .u16 a0_2] 25 (0, 0))) ∧ (w'.heap[gb429]? = some (.cells #[.int .i64 a1_0, .int .u32 a1_1, .int .u16 a1_2] 25 (0, 0))) ∧ (w'.heap[gb430]? = some (.cells #[.int .u16 a2_0, .int .u16 a2_1] 38 (0, 0))) ∧ (w'.heap[s_.1]? = some (.cells #[.int .i64 0, .int .i64 0, .int .i64 0] 28 (0, 0))) ∧ (w'.heap[s_.2]? = some (.cells #[.int .i64 0, .int .i64 0, .int .i64 0] 28 (0, 0))) ∧ (w.heap.size ≤ s_.1) ∧ (w.heap.size ≤ s_.1) ∧ (gb428 ≠ s_.1) ∧ (s_.1 ≠ gb428) ∧ (gb429 ≠ s_.1) ∧ (s_.1 ≠ gb429) ∧ (gb430 ≠ s_.1) ∧ (s_.1 ≠ gb430) ∧ (s_.2 ≠ s_.1) ∧ (s_.1 ≠ s_.2) ∧ (w.heap.size ≤ s_.2) ∧ (w.heap.size ≤ s_.2) ∧ (gb428 ≠ s_.2) ∧ (s_.2 ≠ gb428) ∧ (gb429 ≠ s_.2) ∧ (s_.2 ≠ gb429) ∧ (gb430 ≠ s_.2) ∧ (s_.2 ≠ gb430) ∧ (Below w.heap.size w w')) ?_ ?_
     rotate_left
     ·intro hJ1_4_5
      refine join_ (σ := Unit) 4 #[true, true, true, true, false, false, false, false] (fun s_ => [(18, .agg #[.int .i64 t432, .int .i64 t433, .int .i64 t434]), (20, .agg #[.int .i64 t435, .int .i64 t436, .int .i64 t437])]) (fun s_ w' => (w'.cell? ⟨gb428, 0, none⟩ = some (.int .i64 a0_0) ∧ w'.cell? ⟨gb428, 1, none⟩ = some (.int .u32 a0_1) ∧ w'.cell? ⟨gb428, 2, none⟩ = some (.int .u16 a0_2) ∧ w'.cell? ⟨gb429, 0, none⟩ = some (.int .i64 a1_0) ∧ w'.cell? ⟨gb429, 1, none⟩ = some (.int .u32 a1_1) ∧ w'.cell? ⟨gb429, 2, none⟩ = some (.int .u16 a1_2)) ∧ (w'.heap[gb428]? = some (.cells #[.int .i64 a0_0, .int .u32 a0_1, .int .u16 a0_2] 25 (0, 0))) ∧ (w'.heap[gb429]? = some (.cells #[.int .i64 a1_0, .int .u32 a1_1, .int .u16 a1_2] 25 (0, 0))) ∧ (w'.heap[gb430]? = some (.cells #[.int .u16 a2_0, .int .u16 a2_1] 38 (0, 0))) ∧ (Below w.heap.size w w')) ?_ ?_
      rotate_left
      ·intro hJ1_3
       refine join_ (σ := Nat) 4 #[true, true, true, false, true, false, false, false] (fun s_ => [(18, .agg #[.int .i64 t432, .int .i64 t433, .int .i64 t434]), (8, .pointer (some ⟨s_, 0, none⟩))]) (fun s_ w' => (w'.cell? ⟨gb428, 0, none⟩ = some (.int .i64 a0_0) ∧ w'.cell? ⟨gb428, 1, none⟩ = some (.int .u32 a0_1) ∧ w'.cell? ⟨gb428, 2, none⟩ = some (.int .u16 a0_2) ∧ w'.cell? ⟨gb429, 0, none⟩ = some (.int .i64 a1_0) ∧ w'.cell? ⟨gb429, 1, none⟩ = some (.int .u32 a1_1) ∧ w'.cell? ⟨gb429, 2, none⟩ = some (.int .u16 a1_2)) ∧ (w'.heap[gb428]? = some (.cells #[.int .i64 a0_0, .int .u32 a0_1, .int .u16 a0_2] 25 (0, 0))) ∧ (w'.heap[gb429]? = some (.cells #[.int .i64 a1_0, .int .u32 a1_1, .int .u16 a1_2] 25 (0, 0))) ∧ (w'.heap[gb430]? = some (.cells #[.int .u16 a2_0, .int .u16 a2_1] 38 (0, 0))) ∧ (w'.heap[s_]? = some (.cells #[.int .i64 0, .int .i64 0, .int .i64 0] 28 (0, 0))) ∧ (w.heap.size ≤ s_) ∧ (w.heap.size ≤ s_) ∧ (gb428 ≠ s_) ∧ (s_ ≠ gb428) ∧ (gb429 ≠ s_) ∧ (s_ ≠ gb429) ∧ (gb430 ≠ s_) ∧ (s_ ≠ gb430) ∧ (Below w.heap.size w w')) ?_ ?_
       rotate_left
       ·intro hJ1_4
        refine join_ (σ := Nat) 4 #[true, true, true, false, false, true, false, false] (fun s_ => [(18, .agg #[.int .i64 t432, .int .i64 t433, .int .i64 t434]), (9, .pointer (some ⟨s_, 0, none⟩))]) (fun s_ w' => (w'.cell? ⟨gb428, 0, none⟩ = some (.int .i64 a0_0) ∧ w'.cell? ⟨gb428, 1, none⟩ = some (.int .u32 a0_1) ∧ w'.cell? ⟨gb428, 2, none⟩ = some (.int .u16 a0_2) ∧ w'.cell? ⟨gb429, 0, none⟩ = some (.int .i64 a1_0) ∧ w'.cell? ⟨gb429, 1, none⟩ = some (.int .u32 a1_1) ∧ w'.cell? ⟨gb429, 2, none⟩ = some (.int .u16 a1_2)) ∧ (w'.heap[gb428]? = some (.cells #[.int .i64 a0_0, .int .u32 a0_1, .int .u16 a0_2] 25 (0, 0))) ∧ (w'.heap[gb429]? = some (.cells #[.int .i64 a1_0, .int .u32 a1_1, .int .u16 a1_2] 25 (0, 0))) ∧ (w'.heap[gb430]? = some (.cells #[.int .u16 a2_0, .int .u16 a2_1] 38 (0, 0))) ∧ (w'.heap[s_]? = some (.cells #[.int .i64 0, .int .i64 0, .int .i64 0] 28 (0, 0))) ∧ (w.heap.size ≤ s_) ∧ (w.heap.size ≤ s_) ∧ (gb428 ≠ s_) ∧ (s_ ≠ gb428) ∧ (gb429 ≠ s_) ∧ (s_ ≠ gb429) ∧ (gb430 ≠ s_) ∧ (s_ ≠ gb430) ∧ (Below w.heap.size w w')) ?_ ?_
        rotate_left
        ·intro hJ1_5
         refine join_ (σ := Nat × Nat) 4 #[true, false, true, false, true, true, false, false] (fun s_ => [(8, .pointer (some ⟨s_.1, 0, none⟩)), (9, .pointer (some ⟨s_.2, 0, none⟩))]) (fun s_ w' => (w'.cell? ⟨gb428, 0, none⟩ = some (.int .i64 a0_0) ∧ w'.cell? ⟨gb428, 1, none⟩ = some (.int .u32 a0_1) ∧ w'.cell? ⟨gb428, 2, none⟩ = some (.int .u16 a0_2) ∧ w'.cell? ⟨gb429, 0, none⟩ = some (.int .i64 a1_0) ∧ w'.cell? ⟨gb429, 1, none⟩ = some (.int .u32 a1_1) ∧ w'.cell? ⟨gb429, 2, none⟩ = some (.int .u16 a1_2)) ∧ (w'.heap[gb428]? = some (.cells #[.int .i64 a0_0, .int .u32 a0_1, .int .u16 a0_2] 25 (0, 0))) ∧ (w'.heap[gb429]? = some (.cells #[.int .i64 a1_0, .int .u32 a1_1, .int .u16 a1_2] 25 (0, 0))) ∧ (w'.heap[gb430]? = some (.cells #[.int .u16 a2_0, .int .u16 a2_1] 38 (0, 0))) ∧ (w'.heap[s_.1]? = some (.cells #[.int .i64 0, .int .i64 0, .int .i64 0] 28 (0, 0))) ∧ (w'.heap[s_.2]? = some (.cells #[.int .i64 0, .int .i64 0, .int .i64 0] 28 (0, 0))) ∧ (w.heap.size ≤ s_.1) ∧ (w.heap.size ≤ s_.1) ∧ (gb428 ≠ s_.1) ∧ (s_.1 ≠ gb428) ∧ (gb429 ≠ s_.1) ∧ (s_.1 ≠ gb429) ∧ (gb430 ≠ s_.1) ∧ (s_.1 ≠ gb430) ∧ (s_.2 ≠ s_.1) ∧ (s_.1 ≠ s_.2) ∧ (w.heap.size ≤ s_.2) ∧ (w.heap.size ≤ s_.2) ∧ (gb428 ≠ s_.2) ∧ (s_.2 ≠ gb428) ∧ (gb429 ≠ s_.2) ∧ (s_.2 ≠ gb429) ∧ (gb430 ≠ s_.2) ∧ (s_.2 ≠ gb430) ∧ (Below w.heap.size w w')) ?_ ?_
         rotate_left
         ·intro hJ4_5
          refine join_ (σ := Unit) 5 #[true, true, true, false, false, false, false, false] (fun s_ => [(18, .agg #[.int .i64 t432, .int .i64 t433, .int .i64 t434])]) (fun s_ w' => (w'.cell? ⟨gb428, 0, none⟩ = some (.int .i64 a0_0) ∧ w'.cell? ⟨gb428, 1, none⟩ = some (.int .u32 a0_1) ∧ w'.cell? ⟨gb428, 2, none⟩ = some (.int .u16 a0_2) ∧ w'.cell? ⟨gb429, 0, none⟩ = some (.int .i64 a1_0) ∧ w'.cell? ⟨gb429, 1, none⟩ = some (.int .u32 a1_1) ∧ w'.cell? ⟨gb429, 2, none⟩ = some (.int .u16 a1_2)) ∧ (w'.heap[gb428]? = some (.cells #[.int .i64 a0_0, .int .u32 a0_1, .int .u16 a0_2] 25 (0, 0))) ∧ (w'.heap[gb429]? = some (.cells #[.int .i64 a1_0, .int .u32 a1_1, .int .u16 a1_2] 25 (0, 0))) ∧ (w'.heap[gb430]? = some (.cells #[.int .u16 a2_0, .int .u16 a2_1] 38 (0, 0))) ∧ (Below w.heap.size w w')) ?_ ?_
          rotate_left
          ·intro hJ1
           refine join_ (σ := Nat) 5 #[true, false, true, false, true, false, false, false] (fun s_ => [(8, .pointer (some ⟨s_, 0, none⟩))]) (fun s_ w' => (w'.cell? ⟨gb428, 0, none⟩ = some (.int .i64 a0_0) ∧ w'.cell? ⟨gb428, 1, none⟩ = some (.int .u32 a0_1) ∧ w'.cell? ⟨gb428, 2, none⟩ = some (.int .u16 a0_2) ∧ w'.cell? ⟨gb429, 0, none⟩ = some (.int .i64 a1_0) ∧ w'.cell? ⟨gb429, 1, none⟩ = some (.int .u32 a1_1) ∧ w'.cell? ⟨gb429, 2, none⟩ = some (.int .u16 a1_2)) ∧ (w'.heap[gb428]? = some (.cells #[.int .i64 a0_0, .int .u32 a0_1, .int .u16 a0_2] 25 (0, 0))) ∧ (w'.heap[gb429]? = some (.cells #[.int .i64 a1_0, .int .u32 a1_1, .int .u16 a1_2] 25 (0, 0))) ∧ (w'.heap[gb430]? = some (.cells #[.int .u16 a2_0, .int .u16 a2_1] 38 (0, 0))) ∧ (w'.heap[s_]? = some (.cells #[.int .i64 0, .int .i64 0, .int .i64 0] 28 (0, 0))) ∧ (w.heap.size ≤ s_) ∧ (w.heap.size ≤ s_) ∧ (gb428 ≠ s_) ∧ (s_ ≠ gb428) ∧ (gb429 ≠ s_) ∧ (s_ ≠ gb429) ∧ (gb430 ≠ s_) ∧ (s_ ≠ gb430) ∧ (Below w.heap.size w w')) ?_ ?_
           rotate_left
           ·intro hJ4
            refine join_ (σ := Nat) 5 #[true, false, true, false, false, true, false, false] (fun s_ => [(9, .pointer (some ⟨s_, 0, none⟩))]) (fun s_ w' => (w'.cell? ⟨gb428, 0, none⟩ = some (.int .i64 a0_0) ∧ w'.cell? ⟨gb428, 1, none⟩ = some (.int .u32 a0_1) ∧ w'.cell? ⟨gb428, 2, none⟩ = some (.int .u16 a0_2) ∧ w'.cell? ⟨gb429, 0, none⟩ = some (.int .i64 a1_0) ∧ w'.cell? ⟨gb429, 1, none⟩ = some (.int .u32 a1_1) ∧ w'.cell? ⟨gb429, 2, none⟩ = some (.int .u16 a1_2)) ∧ (w'.heap[gb428]? = some (.cells #[.int .i64 a0_0, .int .u32 a0_1, .int .u16 a0_2] 25 (0, 0))) ∧ (w'.heap[gb429]? = some (.cells #[.int .i64 a1_0, .int .u32 a1_1, .int .u16 a1_2] 25 (0, 0))) ∧ (w'.heap[gb430]? = some (.cells #[.int .u16 a2_0, .int .u16 a2_1] 38 (0, 0))) ∧ (w'.heap[s_]? = some (.cells #[.int .i64 0, .int .i64 0, .int .i64 0] 28 (0, 0))) ∧ (w.heap.size ≤ s_) ∧ (w.heap.size ≤ s_) ∧ (gb428 ≠ s_) ∧ (s_ ≠ gb428) ∧ (gb429 ≠ s_) ∧ (s_ ≠ gb429) ∧ (gb430 ≠ s_) ∧ (s_ ≠ gb430) ∧ (Below w.heap.size w w')) ?_ ?_
            rotate_left
            ·intro hJ5
             refine three_ (i := 1) (j := 4) (k := 5) (Ni := some 18) (Nj := some 8) (Nk := some 9) #[true, true, true, false, false, false, false, false] #[true, false, true, false, true, false, false, false] #[true, false, true, false, false, true, false, false] rfl rfl rfl rfl rfl rfl (three_of HT_.out (by kernel_rfl)) (by decide) (by decide) (by decide) (fun K hK => ?_) (fun K hK => ?_) (fun K hK => ?_)
             ·skip
              refine goes_ Try.func17 (by kernel_rfl) rfl #[.agg #[.int .i64 a0_0, .int .u32 a0_1, .int .u16 a0_2]] (by rfl) rfl rfl am_ ?_
              with_reducible refine (warpwrightref25_Span.calls a0_0 a0_1 a0_2 t432 t433 t434 _ A6.out).mono ?_
              rintro e w17 ⟨rfl, hb⟩
              refine ⟨_, rfl, ?_⟩
              replace BK428 := Aside0.mk (bb_ BK428 hb)
              replace BK429 := Aside0.mk (bb_ BK429 hb)
              replace BK430 := Aside0.mk (bb_ BK430 hb)
              replace HB := Aside0.mk (below_step (bl_ HB) hb)
              (try clear hb)
              (try clear hb2)
              (try clear hk)
              (try clear hi)
              refine hK.out _ _ ⟨(blk_cell BK428.out 0).trans rfl, (blk_cell BK428.out 1).trans rfl, (blk_cell BK428.out 2).trans rfl, (blk_cell BK429.out 0).trans rfl, (blk_cell BK429.out 1).trans rfl, (blk_cell BK429.out 2).trans rfl⟩ (fun hHeld => ?_)
              clear hK K
              refine norm_ (a' := ?_) ?_ ?_
              rotate_left
              ·show Act.put _ (some 18) _ = _
               simp only [Act.put, List.setIfInBounds_toArray, List.set_cons_zero, List.set_cons_succ, i64_w, i32_w]
               rfl
              exact norm_ (by first | (simp only [putAll, Act.put, List.setIfInBounds_toArray, List.set_cons_zero, List.set_cons_succ]; done) | (simp only [putAll, Act.put, List.setIfInBounds_toArray, List.set_cons_zero, List.set_cons_succ]; rfl)) (hJ1 () _ ⟨hHeld, (bk_ BK428), (bk_ BK429), (bk_ BK430), (bl_ HB)⟩)
             ·skip
              refine box_step ?hg (N := 8) ?hd (cs := #[.int .i64 0, .int .i64 0, .int .i64 0]) (t := 28) ?hr ?_; (case hd => rfl); (case hg => rfl); (case hr => first | (go_simp; done) | (go_simp; rfl))
              intro gb438 hg w17 hbox hb
              have BK438 := Aside0.mk (hbox)
              have GW438 := Aside0.mk ((by rw [hg]; exact (below_size (bl_ HB)) : w.heap.size ≤ gb438))
              have GE438 := Aside0.mk ((by rw [hg]; exact (below_size (bl_ HB)) : w.heap.size ≤ gb438))
              have NB428_438 := Aside0.mk (nl_ hg BK428)
              have NB438_428 := Aside0.mk (ng_ hg BK428)
              have NB429_438 := Aside0.mk (nl_ hg BK429)
              have NB438_429 := Aside0.mk (ng_ hg BK429)
              have NB430_438 := Aside0.mk (nl_ hg BK430)
              have NB438_430 := Aside0.mk (ng_ hg BK430)
              replace BK428 := Aside0.mk (bb_ BK428 hb)
              replace BK429 := Aside0.mk (bb_ BK429 hb)
              replace BK430 := Aside0.mk (bb_ BK430 hb)
              replace HB := Aside0.mk (below_step (bl_ HB) hb)
              clear hb hbox hg
              refine hK.out _ _ ⟨(blk_cell BK428.out 0).trans rfl, (blk_cell BK428.out 1).trans rfl, (blk_cell BK428.out 2).trans rfl, (blk_cell BK429.out 0).trans rfl, (blk_cell BK429.out 1).trans rfl, (blk_cell BK429.out 2).trans rfl⟩ (fun hHeld => ?_)
              clear hK K
              refine norm_ (a' := ?_) ?_ ?_
              rotate_left
              ·show Act.put _ (some 8) _ = _
               simp only [Act.put, List.setIfInBounds_toArray, List.set_cons_zero, List.set_cons_succ, i64_w, i32_w]
               rfl
              exact norm_ (by first | (simp only [putAll, Act.put, List.setIfInBounds_toArray, List.set_cons_zero, List.set_cons_succ]; done) | (simp only [putAll, Act.put, List.setIfInBounds_toArray, List.set_cons_zero, List.set_cons_succ]; rfl)) (hJ4 (gb438) _ ⟨hHeld, (bk_ BK428), (bk_ BK429), (bk_ BK430), (bk_ BK438), GW438.out, GE438.out, NB428_438.out, NB438_428.out, NB429_438.out, NB438_429.out, NB430_438.out, NB438_430.out, (bl_ HB)⟩)
             ·skip
              refine box_step ?hg (N := 9) ?hd (cs := #[.int .i64 0, .int .i64 0, .int .i64 0]) (t := 28) ?hr ?_; (case hd => rfl); (case hg => rfl); (case hr => first | (go_simp; done) | (go_simp; rfl))
              intro gb439 hg w17 hbox hb
              have BK439 := Aside0.mk (hbox)
              have GW439 := Aside0.mk ((by rw [hg]; exact (below_size (bl_ HB)) : w.heap.size ≤ gb439))
              have GE439 := Aside0.mk ((by rw [hg]; exact (below_size (bl_ HB)) : w.heap.size ≤ gb439))
              have NB428_439 := Aside0.mk (nl_ hg BK428)
              have NB439_428 := Aside0.mk (ng_ hg BK428)
              have NB429_439 := Aside0.mk (nl_ hg BK429)
              have NB439_429 := Aside0.mk (ng_ hg BK429)
              have NB430_439 := Aside0.mk (nl_ hg BK430)
              have NB439_430 := Aside0.mk (ng_ hg BK430)
              replace BK428 := Aside0.mk (bb_ BK428 hb)
              replace BK429 := Aside0.mk (bb_ BK429 hb)
              replace BK430 := Aside0.mk (bb_ BK430 hb)
              replace HB := Aside0.mk (below_step (bl_ HB) hb)
              clear hb hbox hg
              refine hK.out _ _ ⟨(blk_cell BK428.out 0).trans rfl, (blk_cell BK428.out 1).trans rfl, (blk_cell BK428.out 2).trans rfl, (blk_cell BK429.out 0).trans rfl, (blk_cell BK429.out 1).trans rfl, (blk_cell BK429.out 2).trans rfl⟩ (fun hHeld => ?_)
              clear hK K
              refine norm_ (a' := ?_) ?_ ?_
              rotate_left
              ·show Act.put _ (some 9) _ = _
               simp only [Act.put, List.setIfInBounds_toArray, List.set_cons_zero, List.set_cons_succ, i64_w, i32_w]
               rfl
              exact norm_ (by first | (simp only [putAll, Act.put, List.setIfInBounds_toArray, List.set_cons_zero, List.set_cons_succ]; done) | (simp only [putAll, Act.put, List.setIfInBounds_toArray, List.set_cons_zero, List.set_cons_succ]; rfl)) (hJ5 (gb439) _ ⟨hHeld, (bk_ BK428), (bk_ BK429), (bk_ BK430), (bk_ BK439), GW439.out, GE439.out, NB428_439.out, NB439_428.out, NB429_439.out, NB439_429.out, NB430_439.out, NB439_430.out, (bl_ HB)⟩)
            ·skip
             rintro gb439 w18 ⟨hS_, h0_, h1_, h2_, h3_, h4_, h5_, h6_, h7_, h8_, h9_, h10_, h11_, h12_⟩
             have BK439 : Aside0 (w18.heap[gb439]? = some (.cells #[.int .i64 0, .int .i64 0, .int .i64 0] 28 (0, 0))) := ⟨h3_⟩
             have GW439 : Aside0 (w.heap.size ≤ gb439) := ⟨h4_⟩
             have GE439 : Aside0 (w.heap.size ≤ gb439) := ⟨h5_⟩
             have NB428_439 : Aside0 (gb428 ≠ gb439) := ⟨h6_⟩
             have NB439_428 : Aside0 (gb439 ≠ gb428) := ⟨h7_⟩
             have NB429_439 : Aside0 (gb429 ≠ gb439) := ⟨h8_⟩
             have NB439_429 : Aside0 (gb439 ≠ gb429) := ⟨h9_⟩
             have NB430_439 : Aside0 (gb430 ≠ gb439) := ⟨h10_⟩
             have NB439_430 : Aside0 (gb439 ≠ gb430) := ⟨h11_⟩
             replace BK428 : Aside0 (w18.heap[gb428]? = some (.cells #[.int .i64 a0_0, .int .u32 a0_1, .int .u16 a0_2] 25 (0, 0))) := ⟨h0_⟩
             replace BK429 : Aside0 (w18.heap[gb429]? = some (.cells #[.int .i64 a1_0, .int .u32 a1_1, .int .u16 a1_2] 25 (0, 0))) := ⟨h1_⟩
             replace BK430 : Aside0 (w18.heap[gb430]? = some (.cells #[.int .u16 a2_0, .int .u16 a2_1] 38 (0, 0))) := ⟨h2_⟩
             replace HB : Aside0 (Below w.heap.size w w18) := ⟨h12_⟩
             clear h0_ h10_ h11_ h12_ h1_ h2_ h3_ h4_ h5_ h6_ h7_ h8_ h9_
             have hHeld : w18.cell? ⟨gb428, 0, none⟩ = some (.int .i64 a0_0) ∧ w18.cell? ⟨gb428, 1, none⟩ = some (.int .u32 a0_1) ∧ w18.cell? ⟨gb428, 2, none⟩ = some (.int .u16 a0_2) ∧ w18.cell? ⟨gb429, 0, none⟩ = some (.int .i64 a1_0) ∧ w18.cell? ⟨gb429, 1, none⟩ = some (.int .u32 a1_1) ∧ w18.cell? ⟨gb429, 2, none⟩ = some (.int .u16 a1_2) := hS_
             refine norm_ (a' := ?_) ?_ ?_
             rotate_left
             ·simp only [putAll, Act.put, List.setIfInBounds_toArray, List.set_cons_zero, List.set_cons_succ]
              rfl
             refine two_ (i := 1) (j := 4) (Ni := some 18) (Nj := some 8) #[true, true, true, false, false, true, false, false] #[true, false, true, false, true, true, false, false] rfl rfl rfl rfl (two_of HT_.out (by kernel_rfl)) (by decide) (by decide) (fun K hK => ?_) (fun K hK => ?_)
             ·skip
              refine goes_ Try.func17 (by kernel_rfl) rfl #[.agg #[.int .i64 a0_0, .int .u32 a0_1, .int .u16 a0_2]] (by rfl) rfl rfl am_ ?_
              with_reducible refine (warpwrightref25_Span.calls a0_0 a0_1 a0_2 t432 t433 t434 _ A6.out).mono ?_
              rintro e w19 ⟨rfl, hb⟩
              refine ⟨_, rfl, ?_⟩
              replace BK428 := Aside0.mk (bb_ BK428 hb)
              replace BK429 := Aside0.mk (bb_ BK429 hb)
              replace BK430 := Aside0.mk (bb_ BK430 hb)
              replace BK439 := Aside0.mk (bb_ BK439 hb)
              replace HB := Aside0.mk (below_step (bl_ HB) hb)
              (try clear hb)
              (try clear hb2)
              (try clear hk)
              (try clear hi)
              refine hK.out _ _ ⟨(blk_cell BK428.out 0).trans rfl, (blk_cell BK428.out 1).trans rfl, (blk_cell BK428.out 2).trans rfl, (blk_cell BK429.out 0).trans rfl, (blk_cell BK429.out 1).trans rfl, (blk_cell BK429.out 2).trans rfl⟩ (fun hHeld => ?_)
              clear hK K
              refine norm_ (a' := ?_) ?_ ?_
              rotate_left
              ·show Act.put _ (some 18) _ = _
               simp only [Act.put, List.setIfInBounds_toArray, List.set_cons_zero, List.set_cons_succ, i64_w, i32_w]
               rfl
              exact norm_ (by first | (simp only [putAll, Act.put, List.setIfInBounds_toArray, List.set_cons_zero, List.set_cons_succ]; done) | (simp only [putAll, Act.put, List.setIfInBounds_toArray, List.set_cons_zero, List.set_cons_succ]; rfl)) (hJ1_5 (gb439) _ ⟨hHeld, (bk_ BK428), (bk_ BK429), (bk_ BK430), (bk_ BK439), GW439.out, GE439.out, NB428_439.out, NB439_428.out, NB429_439.out, NB439_429.out, NB430_439.out, NB439_430.out, (bl_ HB)⟩)
             ·skip
              refine box_step ?hg (N := 8) ?hd (cs := #[.int .i64 0, .int .i64 0, .int .i64 0]) (t := 28) ?hr ?_; (case hd => rfl); (case hg => rfl); (case hr => first | (go_simp; done) | (go_simp; rfl))
              intro gb438 hg w19 hbox hb
              have BK438 := Aside0.mk (hbox)
              have GW438 := Aside0.mk ((by rw [hg]; exact (below_size (bl_ HB)) : w.heap.size ≤ gb438))
              have GE438 := Aside0.mk ((by rw [hg]; exact (below_size (bl_ HB)) : w.heap.size ≤ gb438))
              have NB428_438 := Aside0.mk (nl_ hg BK428)
              have NB438_428 := Aside0.mk (ng_ hg BK428)
              have NB429_438 := Aside0.mk (nl_ hg BK429)
              have NB438_429 := Aside0.mk (ng_ hg BK429)
              have NB430_438 := Aside0.mk (nl_ hg BK430)
              have NB438_430 := Aside0.mk (ng_ hg BK430)
              have NB439_438 := Aside0.mk (nl_ hg BK439)
              have NB438_439 := Aside0.mk (ng_ hg BK439)
              replace BK428 := Aside0.mk (bb_ BK428 hb)
              replace BK429 := Aside0.mk (bb_ BK429 hb)
              replace BK430 := Aside0.mk (bb_ BK430 hb)
              replace BK439 := Aside0.mk (bb_ BK439 hb)
              replace HB := Aside0.mk (below_step (bl_ HB) hb)
              clear hb hbox hg
              refine hK.out _ _ ⟨(blk_cell BK428.out 0).trans rfl, (blk_cell BK428.out 1).trans rfl, (blk_cell BK428.out 2).trans rfl, (blk_cell BK429.out 0).trans rfl, (blk_cell BK429.out 1).trans rfl, (blk_cell BK429.out 2).trans rfl⟩ (fun hHeld => ?_)
              clear hK K
              refine norm_ (a' := ?_) ?_ ?_
              rotate_left
              ·show Act.put _ (some 8) _ = _
               simp only [Act.put, List.setIfInBounds_toArray, List.set_cons_zero, List.set_cons_succ, i64_w, i32_w]
               rfl
              exact norm_ (by first | (simp only [putAll, Act.put, List.setIfInBounds_toArray, List.set_cons_zero, List.set_cons_succ]; done) | (simp only [putAll, Act.put, List.setIfInBounds_toArray, List.set_cons_zero, List.set_cons_succ]; rfl)) (hJ4_5 (gb438, gb439) _ ⟨hHeld, (bk_ BK428), (bk_ BK429), (bk_ BK430), (bk_ BK438), (bk_ BK439), GW438.out, GE438.out, NB428_438.out, NB438_428.out, NB429_438.out, NB438_429.out, NB430_438.out, NB438_430.out, NB439_438.out, NB438_439.out, GW439.out, GE439.out, NB428_439.out, NB439_428.out, NB429_439.out, NB439_429.out, NB430_439.out, NB439_430.out, (bl_ HB)⟩)
           ·skip
            rintro gb438 w18 ⟨hS_, h0_, h1_, h2_, h3_, h4_, h5_, h6_, h7_, h8_, h9_, h10_, h11_, h12_⟩
            have BK438 : Aside0 (w18.heap[gb438]? = some (.cells #[.int .i64 0, .int .i64 0, .int .i64 0] 28 (0, 0))) := ⟨h3_⟩
            have GW438 : Aside0 (w.heap.size ≤ gb438) := ⟨h4_⟩
            have GE438 : Aside0 (w.heap.size ≤ gb438) := ⟨h5_⟩
            have NB428_438 : Aside0 (gb428 ≠ gb438) := ⟨h6_⟩
            have NB438_428 : Aside0 (gb438 ≠ gb428) := ⟨h7_⟩
            have NB429_438 : Aside0 (gb429 ≠ gb438) := ⟨h8_⟩
            have NB438_429 : Aside0 (gb438 ≠ gb429) := ⟨h9_⟩
            have NB430_438 : Aside0 (gb430 ≠ gb438) := ⟨h10_⟩
            have NB438_430 : Aside0 (gb438 ≠ gb430) := ⟨h11_⟩
            replace BK428 : Aside0 (w18.heap[gb428]? = some (.cells #[.int .i64 a0_0, .int .u32 a0_1, .int .u16 a0_2] 25 (0, 0))) := ⟨h0_⟩
            replace BK429 : Aside0 (w18.heap[gb429]? = some (.cells #[.int .i64 a1_0, .int .u32 a1_1, .int .u16 a1_2] 25 (0, 0))) := ⟨h1_⟩
            replace BK430 : Aside0 (w18.heap[gb430]? = some (.cells #[.int .u16 a2_0, .int .u16 a2_1] 38 (0, 0))) := ⟨h2_⟩
            replace HB : Aside0 (Below w.heap.size w w18) := ⟨h12_⟩
            clear h0_ h10_ h11_ h12_ h1_ h2_ h3_ h4_ h5_ h6_ h7_ h8_ h9_
            have hHeld : w18.cell? ⟨gb428, 0, none⟩ = some (.int .i64 a0_0) ∧ w18.cell? ⟨gb428, 1, none⟩ = some (.int .u32 a0_1) ∧ w18.cell? ⟨gb428, 2, none⟩ = some (.int .u16 a0_2) ∧ w18.cell? ⟨gb429, 0, none⟩ = some (.int .i64 a1_0) ∧ w18.cell? ⟨gb429, 1, none⟩ = some (.int .u32 a1_1) ∧ w18.cell? ⟨gb429, 2, none⟩ = some (.int .u16 a1_2) := hS_
            refine norm_ (a' := ?_) ?_ ?_
            rotate_left
            ·simp only [putAll, Act.put, List.setIfInBounds_toArray, List.set_cons_zero, List.set_cons_succ]
             rfl
            refine two_ (i := 1) (j := 5) (Ni := some 18) (Nj := some 9) #[true, true, true, false, true, false, false, false] #[true, false, true, false, true, true, false, false] rfl rfl rfl rfl (two_of HT_.out (by kernel_rfl)) (by decide) (by decide) (fun K hK => ?_) (fun K hK => ?_)
            ·skip
             refine goes_ Try.func17 (by kernel_rfl) rfl #[.agg #[.int .i64 a0_0, .int .u32 a0_1, .int .u16 a0_2]] (by rfl) rfl rfl am_ ?_
             with_reducible refine (warpwrightref25_Span.calls a0_0 a0_1 a0_2 t432 t433 t434 _ A6.out).mono ?_
             rintro e w19 ⟨rfl, hb⟩
             refine ⟨_, rfl, ?_⟩
             replace BK428 := Aside0.mk (bb_ BK428 hb)
             replace BK429 := Aside0.mk (bb_ BK429 hb)
             replace BK430 := Aside0.mk (bb_ BK430 hb)
             replace BK438 := Aside0.mk (bb_ BK438 hb)
             replace HB := Aside0.mk (below_step (bl_ HB) hb)
             (try clear hb)
             (try clear hb2)
             (try clear hk)
             (try clear hi)
             refine hK.out _ _ ⟨(blk_cell BK428.out 0).trans rfl, (blk_cell BK428.out 1).trans rfl, (blk_cell BK428.out 2).trans rfl, (blk_cell BK429.out 0).trans rfl, (blk_cell BK429.out 1).trans rfl, (blk_cell BK429.out 2).trans rfl⟩ (fun hHeld => ?_)
             clear hK K
             refine norm_ (a' := ?_) ?_ ?_
             rotate_left
             ·show Act.put _ (some 18) _ = _
              simp only [Act.put, List.setIfInBounds_toArray, List.set_cons_zero, List.set_cons_succ, i64_w, i32_w]
              rfl
             exact norm_ (by first | (simp only [putAll, Act.put, List.setIfInBounds_toArray, List.set_cons_zero, List.set_cons_succ]; done) | (simp only [putAll, Act.put, List.setIfInBounds_toArray, List.set_cons_zero, List.set_cons_succ]; rfl)) (hJ1_4 (gb438) _ ⟨hHeld, (bk_ BK428), (bk_ BK429), (bk_ BK430), (bk_ BK438), GW438.out, GE438.out, NB428_438.out, NB438_428.out, NB429_438.out, NB438_429.out, NB430_438.out, NB438_430.out, (bl_ HB)⟩)
            ·skip
             refine box_step ?hg (N := 9) ?hd (cs := #[.int .i64 0, .int .i64 0, .int .i64 0]) (t := 28) ?hr ?_; (case hd => rfl); (case hg => rfl); (case hr => first | (go_simp; done) | (go_simp; rfl))
             intro gb439 hg w19 hbox hb
             have BK439 := Aside0.mk (hbox)
             have GW439 := Aside0.mk ((by rw [hg]; exact (below_size (bl_ HB)) : w.heap.size ≤ gb439))
             have GE439 := Aside0.mk ((by rw [hg]; exact (below_size (bl_ HB)) : w.heap.size ≤ gb439))
             have NB428_439 := Aside0.mk (nl_ hg BK428)
             have NB439_428 := Aside0.mk (ng_ hg BK428)
             have NB429_439 := Aside0.mk (nl_ hg BK429)
             have NB439_429 := Aside0.mk (ng_ hg BK429)
             have NB430_439 := Aside0.mk (nl_ hg BK430)
             have NB439_430 := Aside0.mk (ng_ hg BK430)
             have NB438_439 := Aside0.mk (nl_ hg BK438)
             have NB439_438 := Aside0.mk (ng_ hg BK438)
             replace BK428 := Aside0.mk (bb_ BK428 hb)
             replace BK429 := Aside0.mk (bb_ BK429 hb)
             replace BK430 := Aside0.mk (bb_ BK430 hb)
             replace BK438 := Aside0.mk (bb_ BK438 hb)
             replace HB := Aside0.mk (below_step (bl_ HB) hb)
             clear hb hbox hg
             refine hK.out _ _ ⟨(blk_cell BK428.out 0).trans rfl, (blk_cell BK428.out 1).trans rfl, (blk_cell BK428.out 2).trans rfl, (blk_cell BK429.out 0).trans rfl, (blk_cell BK429.out 1).trans rfl, (blk_cell BK429.out 2).trans rfl⟩ (fun hHeld => ?_)
             clear hK K
             refine norm_ (a' := ?_) ?_ ?_
             rotate_left
             ·show Act.put _ (some 9) _ = _
              simp only [Act.put, List.setIfInBounds_toArray, List.set_cons_zero, List.set_cons_succ, i64_w, i32_w]
              rfl
             exact norm_ (by first | (simp only [putAll, Act.put, List.setIfInBounds_toArray, List.set_cons_zero, List.set_cons_succ]; done) | (simp only [putAll, Act.put, List.setIfInBounds_toArray, List.set_cons_zero, List.set_cons_succ]; rfl)) (hJ4_5 (gb438, gb439) _ ⟨hHeld, (bk_ BK428), (bk_ BK429), (bk_ BK430), (bk_ BK438), (bk_ BK439), GW438.out, GE438.out, NB428_438.out, NB438_428.out, NB429_438.out, NB438_429.out, NB430_438.out, NB438_430.out, NB439_438.out, NB438_439.out, GW439.out, GE439.out, NB428_439.out, NB439_428.out, NB429_439.out, NB439_429.out, NB430_439.out, NB439_430.out, (bl_ HB)⟩)
          ·skip
           rintro _ w18 ⟨hS_, h0_, h1_, h2_, h3_⟩
           replace BK428 : Aside0 (w18.heap[gb428]? = some (.cells #[.int .i64 a0_0, .int .u32 a0_1, .int .u16 a0_2] 25 (0, 0))) := ⟨h0_⟩
           replace BK429 : Aside0 (w18.heap[gb429]? = some (.cells #[.int .i64 a1_0, .int .u32 a1_1, .int .u16 a1_2] 25 (0, 0))) := ⟨h1_⟩
           replace BK430 : Aside0 (w18.heap[gb430]? = some (.cells #[.int .u16 a2_0, .int .u16 a2_1] 38 (0, 0))) := ⟨h2_⟩
           replace HB : Aside0 (Below w.heap.size w w18) := ⟨h3_⟩
           clear h0_ h1_ h2_ h3_
           have hHeld : w18.cell? ⟨gb428, 0, none⟩ = some (.int .i64 a0_0) ∧ w18.cell? ⟨gb428, 1, none⟩ = some (.int .u32 a0_1) ∧ w18.cell? ⟨gb428, 2, none⟩ = some (.int .u16 a0_2) ∧ w18.cell? ⟨gb429, 0, none⟩ = some (.int .i64 a1_0) ∧ w18.cell? ⟨gb429, 1, none⟩ = some (.int .u32 a1_1) ∧ w18.cell? ⟨gb429, 2, none⟩ = some (.int .u16 a1_2) := hS_
           refine norm_ (a' := ?_) ?_ ?_
           rotate_left
           ·simp only [putAll, Act.put, List.setIfInBounds_toArray, List.set_cons_zero, List.set_cons_succ]
            rfl
           refine three_ (i := 3) (j := 4) (k := 5) (Ni := some 20) (Nj := some 8) (Nk := some 9) #[true, true, true, true, false, false, false, false] #[true, true, true, false, true, false, false, false] #[true, true, true, false, false, true, false, false] rfl rfl rfl rfl rfl rfl (three_of HT_.out (by kernel_rfl)) (by decide) (by decide) (by decide) (fun K hK => ?_) (fun K hK => ?_) (fun K hK => ?_)
           ·skip
            refine goes_ Try.func17 (by kernel_rfl) rfl #[.agg #[.int .i64 a1_0, .int .u32 a1_1, .int .u16 a1_2]] (by rfl) rfl rfl am_ ?_
            with_reducible refine (warpwrightref25_Span.calls a1_0 a1_1 a1_2 t435 t436 t437 _ A7.out).mono ?_
            rintro e w19 ⟨rfl, hb⟩
            refine ⟨_, rfl, ?_⟩
            replace BK428 := Aside0.mk (bb_ BK428 hb)
            replace BK429 := Aside0.mk (bb_ BK429 hb)
            replace BK430 := Aside0.mk (bb_ BK430 hb)
            replace HB := Aside0.mk (below_step (bl_ HB) hb)
            (try clear hb)
            (try clear hb2)
            (try clear hk)
            (try clear hi)
            refine hK.out _ _ ⟨(blk_cell BK428.out 0).trans rfl, (blk_cell BK428.out 1).trans rfl, (blk_cell BK428.out 2).trans rfl, (blk_cell BK429.out 0).trans rfl, (blk_cell BK429.out 1).trans rfl, (blk_cell BK429.out 2).trans rfl⟩ (fun hHeld => ?_)
            clear hK K
            refine norm_ (a' := ?_) ?_ ?_
            rotate_left
            ·show Act.put _ (some 20) _ = _
             simp only [Act.put, List.setIfInBounds_toArray, List.set_cons_zero, List.set_cons_succ, i64_w, i32_w]
             rfl
            exact norm_ (by first | (simp only [putAll, Act.put, List.setIfInBounds_toArray, List.set_cons_zero, List.set_cons_succ]; done) | (simp only [putAll, Act.put, List.setIfInBounds_toArray, List.set_cons_zero, List.set_cons_succ]; rfl)) (hJ1_3 () _ ⟨hHeld, (bk_ BK428), (bk_ BK429), (bk_ BK430), (bl_ HB)⟩)
           ·skip
            refine box_step ?hg (N := 8) ?hd (cs := #[.int .i64 0, .int .i64 0, .int .i64 0]) (t := 28) ?hr ?_; (case hd => rfl); (case hg => rfl); (case hr => first | (go_simp; done) | (go_simp; rfl))
            intro gb438 hg w19 hbox hb
            have BK438 := Aside0.mk (hbox)
            have GW438 := Aside0.mk ((by rw [hg]; exact (below_size (bl_ HB)) : w.heap.size ≤ gb438))
            have GE438 := Aside0.mk ((by rw [hg]; exact (below_size (bl_ HB)) : w.heap.size ≤ gb438))
            have NB428_438 := Aside0.mk (nl_ hg BK428)
            have NB438_428 := Aside0.mk (ng_ hg BK428)
            have NB429_438 := Aside0.mk (nl_ hg BK429)
            have NB438_429 := Aside0.mk (ng_ hg BK429)
            have NB430_438 := Aside0.mk (nl_ hg BK430)
            have NB438_430 := Aside0.mk (ng_ hg BK430)
            replace BK428 := Aside0.mk (bb_ BK428 hb)
            replace BK429 := Aside0.mk (bb_ BK429 hb)
            replace BK430 := Aside0.mk (bb_ BK430 hb)
            replace HB := Aside0.mk (below_step (bl_ HB) hb)
            clear hb hbox hg
            refine hK.out _ _ ⟨(blk_cell BK428.out 0).trans rfl, (blk_cell BK428.out 1).trans rfl, (blk_cell BK428.out 2).trans rfl, (blk_cell BK429.out 0).trans rfl, (blk_cell BK429.out 1).trans rfl, (blk_cell BK429.out 2).trans rfl⟩ (fun hHeld => ?_)
            clear hK K
            refine norm_ (a' := ?_) ?_ ?_
            rotate_left
            ·show Act.put _ (some 8) _ = _
             simp only [Act.put, List.setIfInBounds_toArray, List.set_cons_zero, List.set_cons_succ, i64_w, i32_w]
             rfl
            exact norm_ (by first | (simp only [putAll, Act.put, List.setIfInBounds_toArray, List.set_cons_zero, List.set_cons_succ]; done) | (simp only [putAll, Act.put, List.setIfInBounds_toArray, List.set_cons_zero, List.set_cons_succ]; rfl)) (hJ1_4 (gb438) _ ⟨hHeld, (bk_ BK428), (bk_ BK429), (bk_ BK430), (bk_ BK438), GW438.out, GE438.out, NB428_438.out, NB438_428.out, NB429_438.out, NB438_429.out, NB430_438.out, NB438_430.out, (bl_ HB)⟩)
           ·skip
            refine box_step ?hg (N := 9) ?hd (cs := #[.int .i64 0, .int .i64 0, .int .i64 0]) (t := 28) ?hr ?_; (case hd => rfl); (case hg => rfl); (case hr => first | (go_simp; done) | (go_simp; rfl))
            intro gb439 hg w19 hbox hb
            have BK439 := Aside0.mk (hbox)
            have GW439 := Aside0.mk ((by rw [hg]; exact (below_size (bl_ HB)) : w.heap.size ≤ gb439))
            have GE439 := Aside0.mk ((by rw [hg]; exact (below_size (bl_ HB)) : w.heap.size ≤ gb439))
            have NB428_439 := Aside0.mk (nl_ hg BK428)
            have NB439_428 := Aside0.mk (ng_ hg BK428)
            have NB429_439 := Aside0.mk (nl_ hg BK429)
            have NB439_429 := Aside0.mk (ng_ hg BK429)
            have NB430_439 := Aside0.mk (nl_ hg BK430)
            have NB439_430 := Aside0.mk (ng_ hg BK430)
            replace BK428 := Aside0.mk (bb_ BK428 hb)
            replace BK429 := Aside0.mk (bb_ BK429 hb)
            replace BK430 := Aside0.mk (bb_ BK430 hb)
            replace HB := Aside0.mk (below_step (bl_ HB) hb)
            clear hb hbox hg
            refine hK.out _ _ ⟨(blk_cell BK428.out 0).trans rfl, (blk_cell BK428.out 1).trans rfl, (blk_cell BK428.out 2).trans rfl, (blk_cell BK429.out 0).trans rfl, (blk_cell BK429.out 1).trans rfl, (blk_cell BK429.out 2).trans rfl⟩ (fun hHeld => ?_)
            clear hK K
            refine norm_ (a' := ?_) ?_ ?_
            rotate_left
            ·show Act.put _ (some 9) _ = _
             simp only [Act.put, List.setIfInBounds_toArray, List.set_cons_zero, List.set_cons_succ, i64_w, i32_w]
             rfl
            exact norm_ (by first | (simp only [putAll, Act.put, List.setIfInBounds_toArray, List.set_cons_zero, List.set_cons_succ]; done) | (simp only [putAll, Act.put, List.setIfInBounds_toArray, List.set_cons_zero, List.set_cons_succ]; rfl)) (hJ1_5 (gb439) _ ⟨hHeld, (bk_ BK428), (bk_ BK429), (bk_ BK430), (bk_ BK439), GW439.out, GE439.out, NB428_439.out, NB439_428.out, NB429_439.out, NB439_429.out, NB430_439.out, NB439_430.out, (bl_ HB)⟩)
         ·skip
          rintro ⟨gb438, gb439⟩ w19 ⟨hS_, h0_, h1_, h2_, h3_, h4_, h5_, h6_, h7_, h8_, h9_, h10_, h11_, h12_, h13_, h14_, h15_, h16_, h17_, h18_, h19_, h20_, h21_, h22_, h23_⟩
          have BK438 : Aside0 (w19.heap[gb438]? = some (.cells #[.int .i64 0, .int .i64 0, .int .i64 0] 28 (0, 0))) := ⟨h3_⟩
          have BK439 : Aside0 (w19.heap[gb439]? = some (.cells #[.int .i64 0, .int .i64 0, .int .i64 0] 28 (0, 0))) := ⟨h4_⟩
          have GW438 : Aside0 (w.heap.size ≤ gb438) := ⟨h5_⟩
          have GE438 : Aside0 (w.heap.size ≤ gb438) := ⟨h6_⟩
          have NB428_438 : Aside0 (gb428 ≠ gb438) := ⟨h7_⟩
          have NB438_428 : Aside0 (gb438 ≠ gb428) := ⟨h8_⟩
          have NB429_438 : Aside0 (gb429 ≠ gb438) := ⟨h9_⟩
          have NB438_429 : Aside0 (gb438 ≠ gb429) := ⟨h10_⟩
          have NB430_438 : Aside0 (gb430 ≠ gb438) := ⟨h11_⟩
          have NB438_430 : Aside0 (gb438 ≠ gb430) := ⟨h12_⟩
          have NB439_438 : Aside0 (gb439 ≠ gb438) := ⟨h13_⟩
          have NB438_439 : Aside0 (gb438 ≠ gb439) := ⟨h14_⟩
          have GW439 : Aside0 (w.heap.size ≤ gb439) := ⟨h15_⟩
          have GE439 : Aside0 (w.heap.size ≤ gb439) := ⟨h16_⟩
          have NB428_439 : Aside0 (gb428 ≠ gb439) := ⟨h17_⟩
          have NB439_428 : Aside0 (gb439 ≠ gb428) := ⟨h18_⟩
          have NB429_439 : Aside0 (gb429 ≠ gb439) := ⟨h19_⟩
          have NB439_429 : Aside0 (gb439 ≠ gb429) := ⟨h20_⟩
          have NB430_439 : Aside0 (gb430 ≠ gb439) := ⟨h21_⟩
          have NB439_430 : Aside0 (gb439 ≠ gb430) := ⟨h22_⟩
          replace BK428 : Aside0 (w19.heap[gb428]? = some (.cells #[.int .i64 a0_0, .int .u32 a0_1, .int .u16 a0_2] 25 (0, 0))) := ⟨h0_⟩
          replace BK429 : Aside0 (w19.heap[gb429]? = some (.cells #[.int .i64 a1_0, .int .u32 a1_1, .int .u16 a1_2] 25 (0, 0))) := ⟨h1_⟩
          replace BK430 : Aside0 (w19.heap[gb430]? = some (.cells #[.int .u16 a2_0, .int .u16 a2_1] 38 (0, 0))) := ⟨h2_⟩
          replace HB : Aside0 (Below w.heap.size w w19) := ⟨h23_⟩
          clear h0_ h10_ h11_ h12_ h13_ h14_ h15_ h16_ h17_ h18_ h19_ h1_ h20_ h21_ h22_ h23_ h2_ h3_ h4_ h5_ h6_ h7_ h8_ h9_
          have hHeld : w19.cell? ⟨gb428, 0, none⟩ = some (.int .i64 a0_0) ∧ w19.cell? ⟨gb428, 1, none⟩ = some (.int .u32 a0_1) ∧ w19.cell? ⟨gb428, 2, none⟩ = some (.int .u16 a0_2) ∧ w19.cell? ⟨gb429, 0, none⟩ = some (.int .i64 a1_0) ∧ w19.cell? ⟨gb429, 1, none⟩ = some (.int .u32 a1_1) ∧ w19.cell? ⟨gb429, 2, none⟩ = some (.int .u16 a1_2) := hS_
          refine norm_ (a' := ?_) ?_ ?_
          rotate_left
          ·simp only [putAll, Act.put, List.setIfInBounds_toArray, List.set_cons_zero, List.set_cons_succ]
           rfl
          refine one_ (i := 1) (N := some 18) #[true, true, true, false, true, true, false, false] rfl rfl (one_of HT_.out (by kernel_rfl)) (by decide) (fun K hK => ?_)
          refine goes_ Try.func17 (by kernel_rfl) rfl #[.agg #[.int .i64 a0_0, .int .u32 a0_1, .int .u16 a0_2]] (by rfl) rfl rfl am_ ?_
          with_reducible refine (warpwrightref25_Span.calls a0_0 a0_1 a0_2 t432 t433 t434 _ A6.out).mono ?_
          rintro e w20 ⟨rfl, hb⟩
          refine ⟨_, rfl, ?_⟩
          replace BK428 := Aside0.mk (bb_ BK428 hb)
          replace BK429 := Aside0.mk (bb_ BK429 hb)
          replace BK430 := Aside0.mk (bb_ BK430 hb)
          replace BK438 := Aside0.mk (bb_ BK438 hb)
          replace BK439 := Aside0.mk (bb_ BK439 hb)
          replace HB := Aside0.mk (below_step (bl_ HB) hb)
          (try clear hb)
          (try clear hb2)
          (try clear hk)
          (try clear hi)
          refine hK.out _ _ ⟨(blk_cell BK428.out 0).trans rfl, (blk_cell BK428.out 1).trans rfl, (blk_cell BK428.out 2).trans rfl, (blk_cell BK429.out 0).trans rfl, (blk_cell BK429.out 1).trans rfl, (blk_cell BK429.out 2).trans rfl⟩ (fun hHeld => ?_)
          clear hK K
          refine norm_ (a' := ?_) ?_ ?_
          rotate_left
          ·show Act.put _ (some 18) _ = _
           simp only [Act.put, List.setIfInBounds_toArray, List.set_cons_zero, List.set_cons_succ, i64_w, i32_w]
           rfl
          exact norm_ (by first | (simp only [putAll, Act.put, List.setIfInBounds_toArray, List.set_cons_zero, List.set_cons_succ]; done) | (simp only [putAll, Act.put, List.setIfInBounds_toArray, List.set_cons_zero, List.set_cons_succ]; rfl)) (hJ1_4_5 (gb438, gb439) _ ⟨hHeld, (bk_ BK428), (bk_ BK429), (bk_ BK430), (bk_ BK438), (bk_ BK439), GW438.out, GE438.out, NB428_438.out, NB438_428.out, NB429_438.out, NB438_429.out, NB430_438.out, NB438_430.out, NB439_438.out, NB438_439.out, GW439.out, GE439.out, NB428_439.out, NB439_428.out, NB429_439.out, NB439_429.out, NB430_439.out, NB439_430.out, (bl_ HB)⟩)
        ·skip
         rintro gb439 w19 ⟨hS_, h0_, h1_, h2_, h3_, h4_, h5_, h6_, h7_, h8_, h9_, h10_, h11_, h12_⟩
         have BK439 : Aside0 (w19.heap[gb439]? = some (.cells #[.int .i64 0, .int .i64 0, .int .i64 0] 28 (0, 0))) := ⟨h3_⟩
         have GW439 : Aside0 (w.heap.size ≤ gb439) := ⟨h4_⟩
         have GE439 : Aside0 (w.heap.size ≤ gb439) := ⟨h5_⟩
         have NB428_439 : Aside0 (gb428 ≠ gb439) := ⟨h6_⟩
         have NB439_428 : Aside0 (gb439 ≠ gb428) := ⟨h7_⟩
         have NB429_439 : Aside0 (gb429 ≠ gb439) := ⟨h8_⟩
         have NB439_429 : Aside0 (gb439 ≠ gb429) := ⟨h9_⟩
         have NB430_439 : Aside0 (gb430 ≠ gb439) := ⟨h10_⟩
         have NB439_430 : Aside0 (gb439 ≠ gb430) := ⟨h11_⟩
         replace BK428 : Aside0 (w19.heap[gb428]? = some (.cells #[.int .i64 a0_0, .int .u32 a0_1, .int .u16 a0_2] 25 (0, 0))) := ⟨h0_⟩
         replace BK429 : Aside0 (w19.heap[gb429]? = some (.cells #[.int .i64 a1_0, .int .u32 a1_1, .int .u16 a1_2] 25 (0, 0))) := ⟨h1_⟩
         replace BK430 : Aside0 (w19.heap[gb430]? = some (.cells #[.int .u16 a2_0, .int .u16 a2_1] 38 (0, 0))) := ⟨h2_⟩
         replace HB : Aside0 (Below w.heap.size w w19) := ⟨h12_⟩
         clear h0_ h10_ h11_ h12_ h1_ h2_ h3_ h4_ h5_ h6_ h7_ h8_ h9_
         have hHeld : w19.cell? ⟨gb428, 0, none⟩ = some (.int .i64 a0_0) ∧ w19.cell? ⟨gb428, 1, none⟩ = some (.int .u32 a0_1) ∧ w19.cell? ⟨gb428, 2, none⟩ = some (.int .u16 a0_2) ∧ w19.cell? ⟨gb429, 0, none⟩ = some (.int .i64 a1_0) ∧ w19.cell? ⟨gb429, 1, none⟩ = some (.int .u32 a1_1) ∧ w19.cell? ⟨gb429, 2, none⟩ = some (.int .u16 a1_2) := hS_
         refine norm_ (a' := ?_) ?_ ?_
         rotate_left
         ·simp only [putAll, Act.put, List.setIfInBounds_toArray, List.set_cons_zero, List.set_cons_succ]
          rfl
         refine two_ (i := 3) (j := 4) (Ni := some 20) (Nj := some 8) #[true, true, true, true, false, true, false, false] #[true, true, true, false, true, true, false, false] rfl rfl rfl rfl (two_of HT_.out (by kernel_rfl)) (by decide) (by decide) (fun K hK => ?_) (fun K hK => ?_)
         ·skip
          refine goes_ Try.func17 (by kernel_rfl) rfl #[.agg #[.int .i64 a1_0, .int .u32 a1_1, .int .u16 a1_2]] (by rfl) rfl rfl am_ ?_
          with_reducible refine (warpwrightref25_Span.calls a1_0 a1_1 a1_2 t435 t436 t437 _ A7.out).mono ?_
          rintro e w20 ⟨rfl, hb⟩
          refine ⟨_, rfl, ?_⟩
          replace BK428 := Aside0.mk (bb_ BK428 hb)
          replace BK429 := Aside0.mk (bb_ BK429 hb)
          replace BK430 := Aside0.mk (bb_ BK430 hb)
          replace BK439 := Aside0.mk (bb_ BK439 hb)
          replace HB := Aside0.mk (below_step (bl_ HB) hb)
          (try clear hb)
          (try clear hb2)
          (try clear hk)
          (try clear hi)
          refine hK.out _ _ ⟨(blk_cell BK428.out 0).trans rfl, (blk_cell BK428.out 1).trans rfl, (blk_cell BK428.out 2).trans rfl, (blk_cell BK429.out 0).trans rfl, (blk_cell BK429.out 1).trans rfl, (blk_cell BK429.out 2).trans rfl⟩ (fun hHeld => ?_)
          clear hK K
          refine norm_ (a' := ?_) ?_ ?_
          rotate_left
          ·show Act.put _ (some 20) _ = _
           simp only [Act.put, List.setIfInBounds_toArray, List.set_cons_zero, List.set_cons_succ, i64_w, i32_w]
           rfl
          exact norm_ (by first | (simp only [putAll, Act.put, List.setIfInBounds_toArray, List.set_cons_zero, List.set_cons_succ]; done) | (simp only [putAll, Act.put, List.setIfInBounds_toArray, List.set_cons_zero, List.set_cons_succ]; rfl)) (hJ1_3_5 (gb439) _ ⟨hHeld, (bk_ BK428), (bk_ BK429), (bk_ BK430), (bk_ BK439), GW439.out, GE439.out, NB428_439.out, NB439_428.out, NB429_439.out, NB439_429.out, NB430_439.out, NB439_430.out, (bl_ HB)⟩)
         ·skip
          refine box_step ?hg (N := 8) ?hd (cs := #[.int .i64 0, .int .i64 0, .int .i64 0]) (t := 28) ?hr ?_; (case hd => rfl); (case hg => rfl); (case hr => first | (go_simp; done) | (go_simp; rfl))
          intro gb438 hg w20 hbox hb
          have BK438 := Aside0.mk (hbox)
          have GW438 := Aside0.mk ((by rw [hg]; exact (below_size (bl_ HB)) : w.heap.size ≤ gb438))
          have GE438 := Aside0.mk ((by rw [hg]; exact (below_size (bl_ HB)) : w.heap.size ≤ gb438))
          have NB428_438 := Aside0.mk (nl_ hg BK428)
          have NB438_428 := Aside0.mk (ng_ hg BK428)
          have NB429_438 := Aside0.mk (nl_ hg BK429)
          have NB438_429 := Aside0.mk (ng_ hg BK429)
          have NB430_438 := Aside0.mk (nl_ hg BK430)
          have NB438_430 := Aside0.mk (ng_ hg BK430)
          have NB439_438 := Aside0.mk (nl_ hg BK439)
          have NB438_439 := Aside0.mk (ng_ hg BK439)
          replace BK428 := Aside0.mk (bb_ BK428 hb)
          replace BK429 := Aside0.mk (bb_ BK429 hb)
          replace BK430 := Aside0.mk (bb_ BK430 hb)
          replace BK439 := Aside0.mk (bb_ BK439 hb)
          replace HB := Aside0.mk (below_step (bl_ HB) hb)
          clear hb hbox hg
          refine hK.out _ _ ⟨(blk_cell BK428.out 0).trans rfl, (blk_cell BK428.out 1).trans rfl, (blk_cell BK428.out 2).trans rfl, (blk_cell BK429.out 0).trans rfl, (blk_cell BK429.out 1).trans rfl, (blk_cell BK429.out 2).trans rfl⟩ (fun hHeld => ?_)
          clear hK K
          refine norm_ (a' := ?_) ?_ ?_
          rotate_left
          ·show Act.put _ (some 8) _ = _
           simp only [Act.put, List.setIfInBounds_toArray, List.set_cons_zero, List.set_cons_succ, i64_w, i32_w]
           rfl
          exact norm_ (by first | (simp only [putAll, Act.put, List.setIfInBounds_toArray, List.set_cons_zero, List.set_cons_succ]; done) | (simp only [putAll, Act.put, List.setIfInBounds_toArray, List.set_cons_zero, List.set_cons_succ]; rfl)) (hJ1_4_5 (gb438, gb439) _ ⟨hHeld, (bk_ BK428), (bk_ BK429), (bk_ BK430), (bk_ BK438), (bk_ BK439), GW438.out, GE438.out, NB428_438.out, NB438_428.out, NB429_438.out, NB438_429.out, NB430_438.out, NB438_430.out, NB439_438.out, NB438_439.out, GW439.out, GE439.out, NB428_439.out, NB439_428.out, NB429_439.out, NB439_429.out, NB430_439.out, NB439_430.out, (bl_ HB)⟩)
       ·skip
        rintro gb438 w19 ⟨hS_, h0_, h1_, h2_, h3_, h4_, h5_, h6_, h7_, h8_, h9_, h10_, h11_, h12_⟩
        have BK438 : Aside0 (w19.heap[gb438]? = some (.cells #[.int .i64 0, .int .i64 0, .int .i64 0] 28 (0, 0))) := ⟨h3_⟩
        have GW438 : Aside0 (w.heap.size ≤ gb438) := ⟨h4_⟩
        have GE438 : Aside0 (w.heap.size ≤ gb438) := ⟨h5_⟩
        have NB428_438 : Aside0 (gb428 ≠ gb438) := ⟨h6_⟩
        have NB438_428 : Aside0 (gb438 ≠ gb428) := ⟨h7_⟩
        have NB429_438 : Aside0 (gb429 ≠ gb438) := ⟨h8_⟩
        have NB438_429 : Aside0 (gb438 ≠ gb429) := ⟨h9_⟩
        have NB430_438 : Aside0 (gb430 ≠ gb438) := ⟨h10_⟩
        have NB438_430 : Aside0 (gb438 ≠ gb430) := ⟨h11_⟩
        replace BK428 : Aside0 (w19.heap[gb428]? = some (.cells #[.int .i64 a0_0, .int .u32 a0_1, .int .u16 a0_2] 25 (0, 0))) := ⟨h0_⟩
        replace BK429 : Aside0 (w19.heap[gb429]? = some (.cells #[.int .i64 a1_0, .int .u32 a1_1, .int .u16 a1_2] 25 (0, 0))) := ⟨h1_⟩
        replace BK430 : Aside0 (w19.heap[gb430]? = some (.cells #[.int .u16 a2_0, .int .u16 a2_1] 38 (0, 0))) := ⟨h2_⟩
        replace HB : Aside0 (Below w.heap.size w w19) := ⟨h12_⟩
        clear h0_ h10_ h11_ h12_ h1_ h2_ h3_ h4_ h5_ h6_ h7_ h8_ h9_
        have hHeld : w19.cell? ⟨gb428, 0, none⟩ = some (.int .i64 a0_0) ∧ w19.cell? ⟨gb428, 1, none⟩ = some (.int .u32 a0_1) ∧ w19.cell? ⟨gb428, 2, none⟩ = some (.int .u16 a0_2) ∧ w19.cell? ⟨gb429, 0, none⟩ = some (.int .i64 a1_0) ∧ w19.cell? ⟨gb429, 1, none⟩ = some (.int .u32 a1_1) ∧ w19.cell? ⟨gb429, 2, none⟩ = some (.int .u16 a1_2) := hS_
        refine norm_ (a' := ?_) ?_ ?_
        rotate_left
        ·simp only [putAll, Act.put, List.setIfInBounds_toArray, List.set_cons_zero, List.set_cons_succ]
         rfl
        refine two_ (i := 3) (j := 5) (Ni := some 20) (Nj := some 9) #[true, true, true, true, true, false, false, false] #[true, true, true, false, true, true, false, false] rfl rfl rfl rfl (two_of HT_.out (by kernel_rfl)) (by decide) (by decide) (fun K hK => ?_) (fun K hK => ?_)
        ·skip
         refine goes_ Try.func17 (by kernel_rfl) rfl #[.agg #[.int .i64 a1_0, .int .u32 a1_1, .int .u16 a1_2]] (by rfl) rfl rfl am_ ?_
         with_reducible refine (warpwrightref25_Span.calls a1_0 a1_1 a1_2 t435 t436 t437 _ A7.out).mono ?_
         rintro e w20 ⟨rfl, hb⟩
         refine ⟨_, rfl, ?_⟩
         replace BK428 := Aside0.mk (bb_ BK428 hb)
         replace BK429 := Aside0.mk (bb_ BK429 hb)
         replace BK430 := Aside0.mk (bb_ BK430 hb)
         replace BK438 := Aside0.mk (bb_ BK438 hb)
         replace HB := Aside0.mk (below_step (bl_ HB) hb)
         (try clear hb)
         (try clear hb2)
         (try clear hk)
         (try clear hi)
         refine hK.out _ _ ⟨(blk_cell BK428.out 0).trans rfl, (blk_cell BK428.out 1).trans rfl, (blk_cell BK428.out 2).trans rfl, (blk_cell BK429.out 0).trans rfl, (blk_cell BK429.out 1).trans rfl, (blk_cell BK429.out 2).trans rfl⟩ (fun hHeld => ?_)
         clear hK K
         refine norm_ (a' := ?_) ?_ ?_
         rotate_left
         ·show Act.put _ (some 20) _ = _
          simp only [Act.put, List.setIfInBounds_toArray, List.set_cons_zero, List.set_cons_succ, i64_w, i32_w]
          rfl
         exact norm_ (by first | (simp only [putAll, Act.put, List.setIfInBounds_toArray, List.set_cons_zero, List.set_cons_succ]; done) | (simp only [putAll, Act.put, List.setIfInBounds_toArray, List.set_cons_zero, List.set_cons_succ]; rfl)) (hJ1_3_4 (gb438) _ ⟨hHeld, (bk_ BK428), (bk_ BK429), (bk_ BK430), (bk_ BK438), GW438.out, GE438.out, NB428_438.out, NB438_428.out, NB429_438.out, NB438_429.out, NB430_438.out, NB438_430.out, (bl_ HB)⟩)
        ·skip
         refine box_step ?hg (N := 9) ?hd (cs := #[.int .i64 0, .int .i64 0, .int .i64 0]) (t := 28) ?hr ?_; (case hd => rfl); (case hg => rfl); (case hr => first | (go_simp; done) | (go_simp; rfl))
         intro gb439 hg w20 hbox hb
         have BK439 := Aside0.mk (hbox)
         have GW439 := Aside0.mk ((by rw [hg]; exact (below_size (bl_ HB)) : w.heap.size ≤ gb439))
         have GE439 := Aside0.mk ((by rw [hg]; exact (below_size (bl_ HB)) : w.heap.size ≤ gb439))
         have NB428_439 := Aside0.mk (nl_ hg BK428)
         have NB439_428 := Aside0.mk (ng_ hg BK428)
         have NB429_439 := Aside0.mk (nl_ hg BK429)
         have NB439_429 := Aside0.mk (ng_ hg BK429)
         have NB430_439 := Aside0.mk (nl_ hg BK430)
         have NB439_430 := Aside0.mk (ng_ hg BK430)
         have NB438_439 := Aside0.mk (nl_ hg BK438)
         have NB439_438 := Aside0.mk (ng_ hg BK438)
         replace BK428 := Aside0.mk (bb_ BK428 hb)
         replace BK429 := Aside0.mk (bb_ BK429 hb)
         replace BK430 := Aside0.mk (bb_ BK430 hb)
         replace BK438 := Aside0.mk (bb_ BK438 hb)
         replace HB := Aside0.mk (below_step (bl_ HB) hb)
         clear hb hbox hg
         refine hK.out _ _ ⟨(blk_cell BK428.out 0).trans rfl, (blk_cell BK428.out 1).trans rfl, (blk_cell BK428.out 2).trans rfl, (blk_cell BK429.out 0).trans rfl, (blk_cell BK429.out 1).trans rfl, (blk_cell BK429.out 2).trans rfl⟩ (fun hHeld => ?_)
         clear hK K
         refine norm_ (a' := ?_) ?_ ?_
         rotate_left
         ·show Act.put _ (some 9) _ = _
          simp only [Act.put, List.setIfInBounds_toArray, List.set_cons_zero, List.set_cons_succ, i64_w, i32_w]
          rfl
         exact norm_ (by first | (simp only [putAll, Act.put, List.setIfInBounds_toArray, List.set_cons_zero, List.set_cons_succ]; done) | (simp only [putAll, Act.put, List.setIfInBounds_toArray, List.set_cons_zero, List.set_cons_succ]; rfl)) (hJ1_4_5 (gb438, gb439) _ ⟨hHeld, (bk_ BK428), (bk_ BK429), (bk_ BK430), (bk_ BK438), (bk_ BK439), GW438.out, GE438.out, NB428_438.out, NB438_428.out, NB429_438.out, NB438_429.out, NB430_438.out, NB438_430.out, NB439_438.out, NB438_439.out, GW439.out, GE439.out, NB428_439.out, NB439_428.out, NB429_439.out, NB439_429.out, NB430_439.out, NB439_430.out, (bl_ HB)⟩)
      ·skip
       rintro _ w19 ⟨hS_, h0_, h1_, h2_, h3_⟩
       replace BK428 : Aside0 (w19.heap[gb428]? = some (.cells #[.int .i64 a0_0, .int .u32 a0_1, .int .u16 a0_2] 25 (0, 0))) := ⟨h0_⟩
       replace BK429 : Aside0 (w19.heap[gb429]? = some (.cells #[.int .i64 a1_0, .int .u32 a1_1, .int .u16 a1_2] 25 (0, 0))) := ⟨h1_⟩
       replace BK430 : Aside0 (w19.heap[gb430]? = some (.cells #[.int .u16 a2_0, .int .u16 a2_1] 38 (0, 0))) := ⟨h2_⟩
       replace HB : Aside0 (Below w.heap.size w w19) := ⟨h3_⟩
       clear h0_ h1_ h2_ h3_
       have hHeld : w19.cell? ⟨gb428, 0, none⟩ = some (.int .i64 a0_0) ∧ w19.cell? ⟨gb428, 1, none⟩ = some (.int .u32 a0_1) ∧ w19.cell? ⟨gb428, 2, none⟩ = some (.int .u16 a0_2) ∧ w19.cell? ⟨gb429, 0, none⟩ = some (.int .i64 a1_0) ∧ w19.cell? ⟨gb429, 1, none⟩ = some (.int .u32 a1_1) ∧ w19.cell? ⟨gb429, 2, none⟩ = some (.int .u16 a1_2) := hS_
       refine norm_ (a' := ?_) ?_ ?_
       rotate_left
       ·simp only [putAll, Act.put, List.setIfInBounds_toArray, List.set_cons_zero, List.set_cons_succ]
        rfl
       refine two_ (i := 4) (j := 5) (Ni := some 8) (Nj := some 9) #[true, true, true, true, true, false, false, false] #[true, true, true, true, false, true, false, false] rfl rfl rfl rfl (two_of HT_.out (by kernel_rfl)) (by decide) (by decide) (fun K hK => ?_) (fun K hK => ?_)
       ·skip
        refine box_step ?hg (N := 8) ?hd (cs := #[.int .i64 0, .int .i64 0, .int .i64 0]) (t := 28) ?hr ?_; (case hd => rfl); (case hg => rfl); (case hr => first | (go_simp; done) | (go_simp; rfl))
        intro gb438 hg w20 hbox hb
        have BK438 := Aside0.mk (hbox)
        have GW438 := Aside0.mk ((by rw [hg]; exact (below_size (bl_ HB)) : w.heap.size ≤ gb438))
        have GE438 := Aside0.mk ((by rw [hg]; exact (below_size (bl_ HB)) : w.heap.size ≤ gb438))
        have NB428_438 := Aside0.mk (nl_ hg BK428)
        have NB438_428 := Aside0.mk (ng_ hg BK428)
        have NB429_438 := Aside0.mk (nl_ hg BK429)
        have NB438_429 := Aside0.mk (ng_ hg BK429)
        have NB430_438 := Aside0.mk (nl_ hg BK430)
        have NB438_430 := Aside0.mk (ng_ hg BK430)
        replace BK428 := Aside0.mk (bb_ BK428 hb)
        replace BK429 := Aside0.mk (bb_ BK429 hb)
        replace BK430 := Aside0.mk (bb_ BK430 hb)
        replace HB := Aside0.mk (below_step (bl_ HB) hb)
        clear hb hbox hg
        refine hK.out _ _ ⟨(blk_cell BK428.out 0).trans rfl, (blk_cell BK428.out 1).trans rfl, (blk_cell BK428.out 2).trans rfl, (blk_cell BK429.out 0).trans rfl, (blk_cell BK429.out 1).trans rfl, (blk_cell BK429.out 2).trans rfl⟩ (fun hHeld => ?_)
        clear hK K
        refine norm_ (a' := ?_) ?_ ?_
        rotate_left
        ·show Act.put _ (some 8) _ = _
         simp only [Act.put, List.setIfInBounds_toArray, List.set_cons_zero, List.set_cons_succ, i64_w, i32_w]
         rfl
        exact norm_ (by first | (simp only [putAll, Act.put, List.setIfInBounds_toArray, List.set_cons_zero, List.set_cons_succ]; done) | (simp only [putAll, Act.put, List.setIfInBounds_toArray, List.set_cons_zero, List.set_cons_succ]; rfl)) (hJ1_3_4 (gb438) _ ⟨hHeld, (bk_ BK428), (bk_ BK429), (bk_ BK430), (bk_ BK438), GW438.out, GE438.out, NB428_438.out, NB438_428.out, NB429_438.out, NB438_429.out, NB430_438.out, NB438_430.out, (bl_ HB)⟩)
       ·skip
        refine box_step ?hg (N := 9) ?hd (cs := #[.int .i64 0, .int .i64 0, .int .i64 0]) (t := 28) ?hr ?_; (case hd => rfl); (case hg => rfl); (case hr => first | (go_simp; done) | (go_simp; rfl))
        intro gb439 hg w20 hbox hb
        have BK439 := Aside0.mk (hbox)
        have GW439 := Aside0.mk ((by rw [hg]; exact (below_size (bl_ HB)) : w.heap.size ≤ gb439))
        have GE439 := Aside0.mk ((by rw [hg]; exact (below_size (bl_ HB)) : w.heap.size ≤ gb439))
        have NB428_439 := Aside0.mk (nl_ hg BK428)
        have NB439_428 := Aside0.mk (ng_ hg BK428)
        have NB429_439 := Aside0.mk (nl_ hg BK429)
        have NB439_429 := Aside0.mk (ng_ hg BK429)
        have NB430_439 := Aside0.mk (nl_ hg BK430)
        have NB439_430 := Aside0.mk (ng_ hg BK430)
        replace BK428 := Aside0.mk (bb_ BK428 hb)
        replace BK429 := Aside0.mk (bb_ BK429 hb)
        replace BK430 := Aside0.mk (bb_ BK430 hb)
        replace HB := Aside0.mk (below_step (bl_ HB) hb)
        clear hb hbox hg
        refine hK.out _ _ ⟨(blk_cell BK428.out 0).trans rfl, (blk_cell BK428.out 1).trans rfl, (blk_cell BK428.out 2).trans rfl, (blk_cell BK429.out 0).trans rfl, (blk_cell BK429.out 1).trans rfl, (blk_cell BK429.out 2).trans rfl⟩ (fun hHeld => ?_)
        clear hK K
        refine norm_ (a' := ?_) ?_ ?_
        rotate_left
        ·show Act.put _ (some 9) _ = _
         simp only [Act.put, List.setIfInBounds_toArray, List.set_cons_zero, List.set_cons_succ, i64_w, i32_w]
         rfl
        exact norm_ (by first | (simp only [putAll, Act.put, List.setIfInBounds_toArray, List.set_cons_zero, List.set_cons_succ]; done) | (simp only [putAll, Act.put, List.setIfInBounds_toArray, List.set_cons_zero, List.set_cons_succ]; rfl)) (hJ1_3_5 (gb439) _ ⟨hHeld, (bk_ BK428), (bk_ BK429), (bk_ BK430), (bk_ BK439), GW439.out, GE439.out, NB428_439.out, NB439_428.out, NB429_439.out, NB439_429.out, NB430_439.out, NB439_430.out, (bl_ HB)⟩)
     ·skip
      rintro ⟨gb438, gb439⟩ w20 ⟨hS_, h0_, h1_, h2_, h3_, h4_, h5_, h6_, h7_, h8_, h9_, h10_, h11_, h12_, h13_, h14_, h15_, h16_, h17_, h18_, h19_, h20_, h21_, h22_, h23_⟩
      have BK438 : Aside0 (w20.heap[gb438]? = some (.cells #[.int .i64 0, .int .i64 0, .int .i64 0] 28 (0, 0))) := ⟨h3_⟩
      have BK439 : Aside0 (w20.heap[gb439]? = some (.cells #[.int .i64 0, .int .i64 0, .int .i64 0] 28 (0, 0))) := ⟨h4_⟩
      have GW438 : Aside0 (w.heap.size ≤ gb438) := ⟨h5_⟩
      have GE438 : Aside0 (w.heap.size ≤ gb438) := ⟨h6_⟩
      have NB428_438 : Aside0 (gb428 ≠ gb438) := ⟨h7_⟩
      have NB438_428 : Aside0 (gb438 ≠ gb428) := ⟨h8_⟩
      have NB429_438 : Aside0 (gb429 ≠ gb438) := ⟨h9_⟩
      have NB438_429 : Aside0 (gb438 ≠ gb429) := ⟨h10_⟩
      have NB430_438 : Aside0 (gb430 ≠ gb438) := ⟨h11_⟩
      have NB438_430 : Aside0 (gb438 ≠ gb430) := ⟨h12_⟩
      have NB439_438 : Aside0 (gb439 ≠ gb438) := ⟨h13_⟩
      have NB438_439 : Aside0 (gb438 ≠ gb439) := ⟨h14_⟩
      have GW439 : Aside0 (w.heap.size ≤ gb439) := ⟨h15_⟩
      have GE439 : Aside0 (w.heap.size ≤ gb439) := ⟨h16_⟩
      have NB428_439 : Aside0 (gb428 ≠ gb439) := ⟨h17_⟩
      have NB439_428 : Aside0 (gb439 ≠ gb428) := ⟨h18_⟩
      have NB429_439 : Aside0 (gb429 ≠ gb439) := ⟨h19_⟩
      have NB439_429 : Aside0 (gb439 ≠ gb429) := ⟨h20_⟩
      have NB430_439 : Aside0 (gb430 ≠ gb439) := ⟨h21_⟩
      have NB439_430 : Aside0 (gb439 ≠ gb430) := ⟨h22_⟩
      replace BK428 : Aside0 (w20.heap[gb428]? = some (.cells #[.int .i64 a0_0, .int .u32 a0_1, .int .u16 a0_2] 25 (0, 0))) := ⟨h0_⟩
      replace BK429 : Aside0 (w20.heap[gb429]? = some (.cells #[.int .i64 a1_0, .int .u32 a1_1, .int .u16 a1_2] 25 (0, 0))) := ⟨h1_⟩
      replace BK430 : Aside0 (w20.heap[gb430]? = some (.cells #[.int .u16 a2_0, .int .u16 a2_1] 38 (0, 0))) := ⟨h2_⟩
      replace HB : Aside0 (Below w.heap.size w w20) := ⟨h23_⟩
      clear h0_ h10_ h11_ h12_ h13_ h14_ h15_ h16_ h17_ h18_ h19_ h1_ h20_ h21_ h22_ h23_ h2_ h3_ h4_ h5_ h6_ h7_ h8_ h9_
      have hHeld : w20.cell? ⟨gb428, 0, none⟩ = some (.int .i64 a0_0) ∧ w20.cell? ⟨gb428, 1, none⟩ = some (.int .u32 a0_1) ∧ w20.cell? ⟨gb428, 2, none⟩ = some (.int .u16 a0_2) ∧ w20.cell? ⟨gb429, 0, none⟩ = some (.int .i64 a1_0) ∧ w20.cell? ⟨gb429, 1, none⟩ = some (.int .u32 a1_1) ∧ w20.cell? ⟨gb429, 2, none⟩ = some (.int .u16 a1_2) := hS_
      refine norm_ (a' := ?_) ?_ ?_
      rotate_left
      ·simp only [putAll, Act.put, List.setIfInBounds_toArray, List.set_cons_zero, List.set_cons_succ]
       rfl
      refine one_ (i := 3) (N := some 20) #[true, true, true, true, true, true, false, false] rfl rfl (one_of HT_.out (by kernel_rfl)) (by decide) (fun K hK => ?_)
      refine goes_ Try.func17 (by kernel_rfl) rfl #[.agg #[.int .i64 a1_0, .int .u32 a1_1, .int .u16 a1_2]] (by rfl) rfl rfl am_ ?_
      with_reducible refine (warpwrightref25_Span.calls a1_0 a1_1 a1_2 t435 t436 t437 _ A7.out).mono ?_
      rintro e w21 ⟨rfl, hb⟩
      refine ⟨_, rfl, ?_⟩
      replace BK428 := Aside0.mk (bb_ BK428 hb)
      replace BK429 := Aside0.mk (bb_ BK429 hb)
      replace BK430 := Aside0.mk (bb_ BK430 hb)
      replace BK438 := Aside0.mk (bb_ BK438 hb)
      replace BK439 := Aside0.mk (bb_ BK439 hb)
      replace HB := Aside0.mk (below_step (bl_ HB) hb)
      (try clear hb)
      (try clear hb2)
      (try clear hk)
      (try clear hi)
      refine hK.out _ _ ⟨(blk_cell BK428.out 0).trans rfl, (blk_cell BK428.out 1).trans rfl, (blk_cell BK428.out 2).trans rfl, (blk_cell BK429.out 0).trans rfl, (blk_cell BK429.out 1).trans rfl, (blk_cell BK429.out 2).trans rfl⟩ (fun hHeld => ?_)
      clear hK K
      refine norm_ (a' := ?_) ?_ ?_
      rotate_left
      ·show Act.put _ (some 20) _ = _
       simp only [Act.put, List.setIfInBounds_toArray, List.set_cons_zero, List.set_cons_succ, i64_w, i32_w]
       rfl
      exact norm_ (by first | (simp only [putAll, Act.put, List.setIfInBounds_toArray, List.set_cons_zero, List.set_cons_succ]; done) | (simp only [putAll, Act.put, List.setIfInBounds_toArray, List.set_cons_zero, List.set_cons_succ]; rfl)) (hJ1_3_4_5 (gb438, gb439) _ ⟨hHeld, (bk_ BK428), (bk_ BK429), (bk_ BK430), (bk_ BK438), (bk_ BK439), GW438.out, GE438.out, NB428_438.out, NB438_428.out, NB429_438.out, NB438_429.out, NB430_438.out, NB438_430.out, NB439_438.out, NB438_439.out, GW439.out, GE439.out, NB428_439.out, NB439_428.out, NB429_439.out, NB439_429.out, NB430_439.out, NB439_430.out, (bl_ HB)⟩)
    ·skip
     rintro gb439 w20 ⟨hS_, h0_, h1_, h2_, h3_, h4_, h5_, h6_, h7_, h8_, h9_, h10_, h11_, h12_⟩
     have BK439 : Aside0 (w20.heap[gb439]? = some (.cells #[.int .i64 0, .int .i64 0, .int .i64 0] 28 (0, 0))) := ⟨h3_⟩
     have GW439 : Aside0 (w.heap.size ≤ gb439) := ⟨h4_⟩
     have GE439 : Aside0 (w.heap.size ≤ gb439) := ⟨h5_⟩
     have NB428_439 : Aside0 (gb428 ≠ gb439) := ⟨h6_⟩
     have NB439_428 : Aside0 (gb439 ≠ gb428) := ⟨h7_⟩
     have NB429_439 : Aside0 (gb429 ≠ gb439) := ⟨h8_⟩
     have NB439_429 : Aside0 (gb439 ≠ gb429) := ⟨h9_⟩
     have NB430_439 : Aside0 (gb430 ≠ gb439) := ⟨h10_⟩
     have NB439_430 : Aside0 (gb439 ≠ gb430) := ⟨h11_⟩
     replace BK428 : Aside0 (w20.heap[gb428]? = some (.cells #[.int .i64 a0_0, .int .u32 a0_1, .int .u16 a0_2] 25 (0, 0))) := ⟨h0_⟩
     replace BK429 : Aside0 (w20.heap[gb429]? = some (.cells #[.int .i64 a1_0, .int .u32 a1_1, .int .u16 a1_2] 25 (0, 0))) := ⟨h1_⟩
     replace BK430 : Aside0 (w20.heap[gb430]? = some (.cells #[.int .u16 a2_0, .int .u16 a2_1] 38 (0, 0))) := ⟨h2_⟩
     replace HB : Aside0 (Below w.heap.size w w20) := ⟨h12_⟩
     clear h0_ h10_ h11_ h12_ h1_ h2_ h3_ h4_ h5_ h6_ h7_ h8_ h9_
     have hHeld : w20.cell? ⟨gb428, 0, none⟩ = some (.int .i64 a0_0) ∧ w20.cell? ⟨gb428, 1, none⟩ = some (.int .u32 a0_1) ∧ w20.cell? ⟨gb428, 2, none⟩ = some (.int .u16 a0_2) ∧ w20.cell? ⟨gb429, 0, none⟩ = some (.int .i64 a1_0) ∧ w20.cell? ⟨gb429, 1, none⟩ = some (.int .u32 a1_1) ∧ w20.cell? ⟨gb429, 2, none⟩ = some (.int .u16 a1_2) := hS_
     refine norm_ (a' := ?_) ?_ ?_
     rotate_left
     ·simp only [putAll, Act.put, List.setIfInBounds_toArray, List.set_cons_zero, List.set_cons_succ]
      rfl
     refine one_ (i := 4) (N := some 8) #[true, true, true, true, true, true, false, false] rfl rfl (one_of HT_.out (by kernel_rfl)) (by decide) (fun K hK => ?_)
     refine box_step ?hg (N := 8) ?hd (cs := #[.int .i64 0, .int .i64 0, .int .i64 0]) (t := 28) ?hr ?_; (case hd => rfl); (case hg => rfl); (case hr => first | (go_simp; done) | (go_simp; rfl))
     intro gb438 hg w21 hbox hb
     have BK438 := Aside0.mk (hbox)
     have GW438 := Aside0.mk ((by rw [hg]; exact (below_size (bl_ HB)) : w.heap.size ≤ gb438))
     have GE438 := Aside0.mk ((by rw [hg]; exact (below_size (bl_ HB)) : w.heap.size ≤ gb438))
     have NB428_438 := Aside0.mk (nl_ hg BK428)
     have NB438_428 := Aside0.mk (ng_ hg BK428)
     have NB429_438 := Aside0.mk (nl_ hg BK429)
     have NB438_429 := Aside0.mk (ng_ hg BK429)
     have NB430_438 := Aside0.mk (nl_ hg BK430)
     have NB438_430 := Aside0.mk (ng_ hg BK430)
     have NB439_438 := Aside0.mk (nl_ hg BK439)
     have NB438_439 := Aside0.mk (ng_ hg BK439)
     replace BK428 := Aside0.mk (bb_ BK428 hb)
     replace BK429 := Aside0.mk (bb_ BK429 hb)
     replace BK430 := Aside0.mk (bb_ BK430 hb)
     replace BK439 := Aside0.mk (bb_ BK439 hb)
     replace HB := Aside0.mk (below_step (bl_ HB) hb)
     clear hb hbox hg
     refine hK.out _ _ ⟨(blk_cell BK428.out 0).trans rfl, (blk_cell BK428.out 1).trans rfl, (blk_cell BK428.out 2).trans rfl, (blk_cell BK429.out 0).trans rfl, (blk_cell BK429.out 1).trans rfl, (blk_cell BK429.out 2).trans rfl⟩ (fun hHeld => ?_)
     clear hK K
     refine norm_ (a' := ?_) ?_ ?_
     rotate_left
     ·show Act.put _ (some 8) _ = _
      simp only [Act.put, List.setIfInBounds_toArray, List.set_cons_zero, List.set_cons_succ, i64_w, i32_w]
      rfl
     exact norm_ (by first | (simp only [putAll, Act.put, List.setIfInBounds_toArray, List.set_cons_zero, List.set_cons_succ]; done) | (simp only [putAll, Act.put, List.setIfInBounds_toArray, List.set_cons_zero, List.set_cons_succ]; rfl)) (hJ1_3_4_5 (gb438, gb439) _ ⟨hHeld, (bk_ BK428), (bk_ BK429), (bk_ BK430), (bk_ BK438), (bk_ BK439), GW438.out, GE438.out, NB428_438.out, NB438_428.out, NB429_438.out, NB438_429.out, NB430_438.out, NB438_430.out, NB439_438.out, NB438_439.out, GW439.out, GE439.out, NB428_439.out, NB439_428.out, NB429_439.out, NB439_429.out, NB430_439.out, NB439_430.out, (bl_ HB)⟩)
   ·skip
    rintro gb438 w20 ⟨hS_, h0_, h1_, h2_, h3_, h4_, h5_, h6_, h7_, h8_, h9_, h10_, h11_, h12_⟩
    have BK438 : Aside0 (w20.heap[gb438]? = some (.cells #[.int .i64 0, .int .i64 0, .int .i64 0] 28 (0, 0))) := ⟨h3_⟩
    have GW438 : Aside0 (w.heap.size ≤ gb438) := ⟨h4_⟩
    have GE438 : Aside0 (w.heap.size ≤ gb438) := ⟨h5_⟩
    have NB428_438 : Aside0 (gb428 ≠ gb438) := ⟨h6_⟩
    have NB438_428 : Aside0 (gb438 ≠ gb428) := ⟨h7_⟩
    have NB429_438 : Aside0 (gb429 ≠ gb438) := ⟨h8_⟩
    have NB438_429 : Aside0 (gb438 ≠ gb429) := ⟨h9_⟩
    have NB430_438 : Aside0 (gb430 ≠ gb438) := ⟨h10_⟩
    have NB438_430 : Aside0 (gb438 ≠ gb430) := ⟨h11_⟩
    replace BK428 : Aside0 (w20.heap[gb428]? = some (.cells #[.int .i64 a0_0, .int .u32 a0_1, .int .u16 a0_2] 25 (0, 0))) := ⟨h0_⟩
    replace BK429 : Aside0 (w20.heap[gb429]? = some (.cells #[.int .i64 a1_0, .int .u32 a1_1, .int .u16 a1_2] 25 (0, 0))) := ⟨h1_⟩
    replace BK430 : Aside0 (w20.heap[gb430]? = some (.cells #[.int .u16 a2_0, .int .u16 a2_1] 38 (0, 0))) := ⟨h2_⟩
    replace HB : Aside0 (Below w.heap.size w w20) := ⟨h12_⟩
    clear h0_ h10_ h11_ h12_ h1_ h2_ h3_ h4_ h5_ h6_ h7_ h8_ h9_
    have hHeld : w20.cell? ⟨gb428, 0, none⟩ = some (.int .i64 a0_0) ∧ w20.cell? ⟨gb428, 1, none⟩ = some (.int .u32 a0_1) ∧ w20.cell? ⟨gb428, 2, none⟩ = some (.int .u16 a0_2) ∧ w20.cell? ⟨gb429, 0, none⟩ = some (.int .i64 a1_0) ∧ w20.cell? ⟨gb429, 1, none⟩ = some (.int .u32 a1_1) ∧ w20.cell? ⟨gb429, 2, none⟩ = some (.int .u16 a1_2) := hS_
    refine norm_ (a' := ?_) ?_ ?_
    rotate_left
    ·simp only [putAll, Act.put, List.setIfInBounds_toArray, List.set_cons_zero, List.set_cons_succ]
     rfl
    refine one_ (i := 5) (N := some 9) #[true, true, true, true, true, true, false, false] rfl rfl (one_of HT_.out (by kernel_rfl)) (by decide) (fun K hK => ?_)
    refine box_step ?hg (N := 9) ?hd (cs := #[.int .i64 0, .int .i64 0, .int .i64 0]) (t := 28) ?hr ?_; (case hd => rfl); (case hg => rfl); (case hr => first | (go_simp; done) | (go_simp; rfl))
    intro gb439 hg w21 hbox hb
    have BK439 := Aside0.mk (hbox)
    have GW439 := Aside0.mk ((by rw [hg]; exact (below_size (bl_ HB)) : w.heap.size ≤ gb439))
    have GE439 := Aside0.mk ((by rw [hg]; exact (below_size (bl_ HB)) : w.heap.size ≤ gb439))
    have NB428_439 := Aside0.mk (nl_ hg BK428)
    have NB439_428 := Aside0.mk (ng_ hg BK428)
    have NB429_439 := Aside0.mk (nl_ hg BK429)
    have NB439_429 := Aside0.mk (ng_ hg BK429)
    have NB430_439 := Aside0.mk (nl_ hg BK430)
    have NB439_430 := Aside0.mk (ng_ hg BK430)
    have NB438_439 := Aside0.mk (nl_ hg BK438)
    have NB439_438 := Aside0.mk (ng_ hg BK438)
    replace BK428 := Aside0.mk (bb_ BK428 hb)
    replace BK429 := Aside0.mk (bb_ BK429 hb)
    replace BK430 := Aside0.mk (bb_ BK430 hb)
    replace BK438 := Aside0.mk (bb_ BK438 hb)
    replace HB := Aside0.mk (below_step (bl_ HB) hb)
    clear hb hbox hg
    refine hK.out _ _ ⟨(blk_cell BK428.out 0).trans rfl, (blk_cell BK428.out 1).trans rfl, (blk_cell BK428.out 2).trans rfl, (blk_cell BK429.out 0).trans rfl, (blk_cell BK429.out 1).trans rfl, (blk_cell BK429.out 2).trans rfl⟩ (fun hHeld => ?_)
    clear hK K
    refine norm_ (a' := ?_) ?_ ?_
    rotate_left
    ·show Act.put _ (some 9) _ = _
     simp only [Act.put, List.setIfInBounds_toArray, List.set_cons_zero, List.set_cons_succ, i64_w, i32_w]
     rfl
    exact norm_ (by first | (simp only [putAll, Act.put, List.setIfInBounds_toArray, List.set_cons_zero, List.set_cons_succ]; done) | (simp only [putAll, Act.put, List.setIfInBounds_toArray, List.set_cons_zero, List.set_cons_succ]; rfl)) (hJ1_3_4_5 (gb438, gb439) _ ⟨hHeld, (bk_ BK428), (bk_ BK429), (bk_ BK430), (bk_ BK438), (bk_ BK439), GW438.out, GE438.out, NB428_438.out, NB438_428.out, NB429_438.out, NB438_429.out, NB430_438.out, NB438_430.out, NB439_438.out, NB438_439.out, GW439.out, GE439.out, NB428_439.out, NB439_428.out, NB429_439.out, NB439_429.out, NB430_439.out, NB439_430.out, (bl_ HB)⟩)
  rintro ⟨gb438, gb439⟩ w21 ⟨hS_, h0_, h1_, h2_, h3_, h4_, h5_, h6_, h7_, h8_, h9_, h10_, h11_, h12_, h13_, h14_, h15_, h16_, h17_, h18_, h19_, h20_, h21_, h22_, h23_⟩
  have BK438 : Aside0 (w21.heap[gb438]? = some (.cells #[.int .i64 0, .int .i64 0, .int .i64 0] 28 (0, 0))) := ⟨h3_⟩
  have BK439 : Aside0 (w21.heap[gb439]? = some (.cells #[.int .i64 0, .int .i64 0, .int .i64 0] 28 (0, 0))) := ⟨h4_⟩
  have GW438 : Aside0 (w.heap.size ≤ gb438) := ⟨h5_⟩
  have GE438 : Aside0 (w.heap.size ≤ gb438) := ⟨h6_⟩
  have NB428_438 : Aside0 (gb428 ≠ gb438) := ⟨h7_⟩
  have NB438_428 : Aside0 (gb438 ≠ gb428) := ⟨h8_⟩
  have NB429_438 : Aside0 (gb429 ≠ gb438) := ⟨h9_⟩
  have NB438_429 : Aside0 (gb438 ≠ gb429) := ⟨h10_⟩
  have NB430_438 : Aside0 (gb430 ≠ gb438) := ⟨h11_⟩
  have NB438_430 : Aside0 (gb438 ≠ gb430) := ⟨h12_⟩
  have NB439_438 : Aside0 (gb439 ≠ gb438) := ⟨h13_⟩
  have NB438_439 : Aside0 (gb438 ≠ gb439) := ⟨h14_⟩
  have GW439 : Aside0 (w.heap.size ≤ gb439) := ⟨h15_⟩
  have GE439 : Aside0 (w.heap.size ≤ gb439) := ⟨h16_⟩
  have NB428_439 : Aside0 (gb428 ≠ gb439) := ⟨h17_⟩
  have NB439_428 : Aside0 (gb439 ≠ gb428) := ⟨h18_⟩
  have NB429_439 : Aside0 (gb429 ≠ gb439) := ⟨h19_⟩
  have NB439_429 : Aside0 (gb439 ≠ gb429) := ⟨h20_⟩
  have NB430_439 : Aside0 (gb430 ≠ gb439) := ⟨h21_⟩
  have NB439_430 : Aside0 (gb439 ≠ gb430) := ⟨h22_⟩
  replace BK428 : Aside0 (w21.heap[gb428]? = some (.cells #[.int .i64 a0_0, .int .u32 a0_1, .int .u16 a0_2] 25 (0, 0))) := ⟨h0_⟩
  replace BK429 : Aside0 (w21.heap[gb429]? = some (.cells #[.int .i64 a1_0, .int .u32 a1_1, .int .u16 a1_2] 25 (0, 0))) := ⟨h1_⟩
  replace BK430 : Aside0 (w21.heap[gb430]? = some (.cells #[.int .u16 a2_0, .int .u16 a2_1] 38 (0, 0))) := ⟨h2_⟩
  replace HB : Aside0 (Below w.heap.size w w21) := ⟨h23_⟩
  clear h0_ h10_ h11_ h12_ h13_ h14_ h15_ h16_ h17_ h18_ h19_ h1_ h20_ h21_ h22_ h23_ h2_ h3_ h4_ h5_ h6_ h7_ h8_ h9_
  have hHeld : w21.cell? ⟨gb428, 0, none⟩ = some (.int .i64 a0_0) ∧ w21.cell? ⟨gb428, 1, none⟩ = some (.int .u32 a0_1) ∧ w21.cell? ⟨gb428, 2, none⟩ = some (.int .u16 a0_2) ∧ w21.cell? ⟨gb429, 0, none⟩ = some (.int .i64 a1_0) ∧ w21.cell? ⟨gb429, 1, none⟩ = some (.int .u32 a1_1) ∧ w21.cell? ⟨gb429, 2, none⟩ = some (.int .u16 a1_2) := hS_
  refine norm_ (a' := ?_) ?_ ?_
  rotate_left
  ·simp only [putAll, Act.put, List.setIfInBounds_toArray, List.set_cons_zero, List.set_cons_succ]
   rfl
  refine one_ (i := 6) (N := none) #[true, true, true, true, true, true, true, false] rfl rfl (one_of HT_.out (by kernel_rfl)) (by decide) (fun K hK => ?_)
  have hs22 : w21.cell? ⟨gb438, 0, none⟩ = some (.int .i64 0) := (blk_cell BK438.out 0).trans rfl
  have hfs22 := blk_frozen BK438.out 0
  have hns22_0 := NB428_438.out
  have hns22_1 := NB429_438.out
  have hns22_2 := NB430_438.out
  have hns22_4 := NB439_438.out
  have hms22_0 := NB438_428.out
  have hms22_1 := NB438_429.out
  have hms22_2 := NB438_430.out
  have hms22_4 := NB438_439.out
  have hs23 : w21.cell? ⟨gb438, 1, none⟩ = some (.int .i64 0) := (blk_cell BK438.out 1).trans rfl
  have hfs23 := blk_frozen BK438.out 1
  have hns23_0 := NB428_438.out
  have hns23_1 := NB429_438.out
  have hns23_2 := NB430_438.out
  have hns23_4 := NB439_438.out
  have hms23_0 := NB438_428.out
  have hms23_1 := NB438_429.out
  have hms23_2 := NB438_430.out
  have hms23_4 := NB438_439.out
  have hs24 : w21.cell? ⟨gb438, 2, none⟩ = some (.int .i64 0) := (blk_cell BK438.out 2).trans rfl
  have hfs24 := blk_frozen BK438.out 2
  have hns24_0 := NB428_438.out
  have hns24_1 := NB429_438.out
  have hns24_2 := NB430_438.out
  have hns24_4 := NB439_438.out
  have hms24_0 := NB438_428.out
  have hms24_1 := NB438_429.out
  have hms24_2 := NB438_430.out
  have hms24_4 := NB438_439.out
  refine skip_ (w1 := ?_) (by rfl) rfl ?_ ?_
  rotate_left
  ·go_simp
   rfl
  refine hK.out _ _ ⟨((cell_far (p := ⟨gb438, _, none⟩) NB428_438.out _).trans (((cell_far (p := ⟨gb438, _, none⟩) NB428_438.out _).trans (((cell_far (p := ⟨gb438, _, none⟩) NB428_438.out _).trans (hHeld.1)))))), ((cell_far (p := ⟨gb438, _, none⟩) NB428_438.out _).trans (((cell_far (p := ⟨gb438, _, none⟩) NB428_438.out _).trans (((cell_far (p := ⟨gb438, _, none⟩) NB428_438.out _).trans (hHeld.2.1)))))), ((cell_far (p := ⟨gb438, _, none⟩) NB428_438.out _).trans (((cell_far (p := ⟨gb438, _, none⟩) NB428_438.out _).trans (((cell_far (p := ⟨gb438, _, none⟩) NB428_438.out _).trans (hHeld.2.2.1)))))), ((cell_far (p := ⟨gb438, _, none⟩) NB429_438.out _).trans (((cell_far (p := ⟨gb438, _, none⟩) NB429_438.out _).trans (((cell_far (p := ⟨gb438, _, none⟩) NB429_438.out _).trans (hHeld.2.2.2.1)))))), ((cell_far (p := ⟨gb438, _, none⟩) NB429_438.out _).trans (((cell_far (p := ⟨gb438, _, none⟩) NB429_438.out _).trans (((cell_far (p := ⟨gb438, _, none⟩) NB429_438.out _).trans (hHeld.2.2.2.2.1)))))), ((cell_far (p := ⟨gb438, _, none⟩) NB429_438.out _).trans (((cell_far (p := ⟨gb438, _, none⟩) NB429_438.out _).trans (((cell_far (p := ⟨gb438, _, none⟩) NB429_438.out _).trans (hHeld.2.2.2.2.2))))))⟩ (fun hHeld => ?_)
  clear hK K
  refine one_ (i := 7) (N := none) #[true, true, true, true, true, true, true, true] rfl rfl (one_of HT_.out (by kernel_rfl)) (by decide) (fun K hK => ?_)
  have hs25 : w21.cell? ⟨gb439, 0, none⟩ = some (.int .i64 0) := (blk_cell BK439.out 0).trans rfl
  have hfs25 := blk_frozen BK439.out 0
  have hns25_0 := NB428_439.out
  have hns25_1 := NB429_439.out
  have hns25_2 := NB430_439.out
  have hns25_3 := NB438_439.out
  have hms25_0 := NB439_428.out
  have hms25_1 := NB439_429.out
  have hms25_2 := NB439_430.out
  have hms25_3 := NB439_438.out
  have hs26 : w21.cell? ⟨gb439, 1, none⟩ = some (.int .i64 0) := (blk_cell BK439.out 1).trans rfl
  have hfs26 := blk_frozen BK439.out 1
  have hns26_0 := NB428_439.out
  have hns26_1 := NB429_439.out
  have hns26_2 := NB430_439.out
  have hns26_3 := NB438_439.out
  have hms26_0 := NB439_428.out
  have hms26_1 := NB439_429.out
  have hms26_2 := NB439_430.out
  have hms26_3 := NB439_438.out
  have hs27 : w21.cell? ⟨gb439, 2, none⟩ = some (.int .i64 0) := (blk_cell BK439.out 2).trans rfl
  have hfs27 := blk_frozen BK439.out 2
  have hns27_0 := NB428_439.out
  have hns27_1 := NB429_439.out
  have hns27_2 := NB430_439.out
  have hns27_3 := NB438_439.out
  have hms27_0 := NB439_428.out
  have hms27_1 := NB439_429.out
  have hms27_2 := NB439_430.out
  have hms27_3 := NB439_438.out
  refine skip_ (w1 := ?_) (by rfl) rfl ?_ ?_
  rotate_left
  ·go_simp
   rfl
  refine hK.out _ _ ⟨((cell_far (p := ⟨gb439, _, none⟩) NB428_439.out _).trans (((cell_far (p := ⟨gb439, _, none⟩) NB428_439.out _).trans (((cell_far (p := ⟨gb439, _, none⟩) NB428_439.out _).trans (hHeld.1)))))), ((cell_far (p := ⟨gb439, _, none⟩) NB428_439.out _).trans (((cell_far (p := ⟨gb439, _, none⟩) NB428_439.out _).trans (((cell_far (p := ⟨gb439, _, none⟩) NB428_439.out _).trans (hHeld.2.1)))))), ((cell_far (p := ⟨gb439, _, none⟩) NB428_439.out _).trans (((cell_far (p := ⟨gb439, _, none⟩) NB428_439.out _).trans (((cell_far (p := ⟨gb439, _, none⟩) NB428_439.out _).trans (hHeld.2.2.1)))))), ((cell_far (p := ⟨gb439, _, none⟩) NB429_439.out _).trans (((cell_far (p := ⟨gb439, _, none⟩) NB429_439.out _).trans (((cell_far (p := ⟨gb439, _, none⟩) NB429_439.out _).trans (hHeld.2.2.2.1)))))), ((cell_far (p := ⟨gb439, _, none⟩) NB429_439.out _).trans (((cell_far (p := ⟨gb439, _, none⟩) NB429_439.out _).trans (((cell_far (p := ⟨gb439, _, none⟩) NB429_439.out _).trans (hHeld.2.2.2.2.1)))))), ((cell_far (p := ⟨gb439, _, none⟩) NB429_439.out _).trans (((cell_far (p := ⟨gb439, _, none⟩) NB429_439.out _).trans (((cell_far (p := ⟨gb439, _, none⟩) NB429_439.out _).trans (hHeld.2.2.2.2.2))))))⟩ (fun hHeld => ?_)
  clear hK K
  refine done_ (done_of HT_.out (by kernel_rfl)) ?_
  try go_wp2
  have n0_ : Aside0 (((((((w21.setCell ⟨gb438, 0, none⟩ (.int .i64 t432)).setCell ⟨gb438, 1, none⟩ (.int .i64 t433)).setCell ⟨gb438, 2, none⟩ (.int .i64 t434)).setCell ⟨gb439, 0, none⟩ (.int .i64 t435)).setCell ⟨gb439, 1, none⟩ (.int .i64 t436)).setCell ⟨gb439, 2, none⟩ (.int .i64 t437)).heap[gb428]? = some (.cells #[.int .i64 a0_0, .int .u32 a0_1, .int .u16 a0_2] 25 (0, 0))) := ⟨by (with_reducible repeat (first | refine blk_drewN ?_ _ | refine blk_drew ?_ | refine blk_alloc ?_ _)); refine blk_far ?_ NB428_439.out _; (with_reducible repeat (first | refine blk_drewN ?_ _ | refine blk_drew ?_ | refine blk_alloc ?_ _)); refine blk_far ?_ NB428_439.out _; (with_reducible repeat (first | refine blk_drewN ?_ _ | refine blk_drew ?_ | refine blk_alloc ?_ _)); refine blk_far ?_ NB428_439.out _; (with_reducible repeat (first | refine blk_drewN ?_ _ | refine blk_drew ?_ | refine blk_alloc ?_ _)); refine blk_far ?_ NB428_438.out _; (with_reducible repeat (first | refine blk_drewN ?_ _ | refine blk_drew ?_ | refine blk_alloc ?_ _)); refine blk_far ?_ NB428_438.out _; (with_reducible repeat (first | refine blk_drewN ?_ _ | refine blk_drew ?_ | refine blk_alloc ?_ _)); refine blk_far ?_ NB428_438.out _; (with_reducible repeat (first | refine blk_drewN ?_ _ | refine blk_drew ?_ | refine blk_alloc ?_ _)); exact BK428.out⟩
  have n1_ : Aside0 (((((((w21.setCell ⟨gb438, 0, none⟩ (.int .i64 t432)).setCell ⟨gb438, 1, none⟩ (.int .i64 t433)).setCell ⟨gb438, 2, none⟩ (.int .i64 t434)).setCell ⟨gb439, 0, none⟩ (.int .i64 t435)).setCell ⟨gb439, 1, none⟩ (.int .i64 t436)).setCell ⟨gb439, 2, none⟩ (.int .i64 t437)).heap[gb429]? = some (.cells #[.int .i64 a1_0, .int .u32 a1_1, .int .u16 a1_2] 25 (0, 0))) := ⟨by (with_reducible repeat (first | refine blk_drewN ?_ _ | refine blk_drew ?_ | refine blk_alloc ?_ _)); refine blk_far ?_ NB429_439.out _; (with_reducible repeat (first | refine blk_drewN ?_ _ | refine blk_drew ?_ | refine blk_alloc ?_ _)); refine blk_far ?_ NB429_439.out _; (with_reducible repeat (first | refine blk_drewN ?_ _ | refine blk_drew ?_ | refine blk_alloc ?_ _)); refine blk_far ?_ NB429_439.out _; (with_reducible repeat (first | refine blk_drewN ?_ _ | refine blk_drew ?_ | refine blk_alloc ?_ _)); refine blk_far ?_ NB429_438.out _; (with_reducible repeat (first | refine blk_drewN ?_ _ | refine blk_drew ?_ | refine blk_alloc ?_ _)); refine blk_far ?_ NB429_438.out _; (with_reducible repeat (first | refine blk_drewN ?_ _ | refine blk_drew ?_ | refine blk_alloc ?_ _)); refine blk_far ?_ NB429_438.out _; (with_reducible repeat (first | refine blk_drewN ?_ _ | refine blk_drew ?_ | refine blk_alloc ?_ _)); exact BK429.out⟩
  have n2_ : Aside0 (((((((w21.setCell ⟨gb438, 0, none⟩ (.int .i64 t432)).setCell ⟨gb438, 1, none⟩ (.int .i64 t433)).setCell ⟨gb438, 2, none⟩ (.int .i64 t434)).setCell ⟨gb439, 0, none⟩ (.int .i64 t435)).setCell ⟨gb439, 1, none⟩ (.int .i64 t436)).setCell ⟨gb439, 2, none⟩ (.int .i64 t437)).heap[gb430]? = some (.cells #[.int .u16 a2_0, .int .u16 a2_1] 38 (0, 0))) := ⟨by (with_reducible repeat (first | refine blk_drewN ?_ _ | refine blk_drew ?_ | refine blk_alloc ?_ _)); refine blk_far ?_ NB430_439.out _; (with_reducible repeat (first | refine blk_drewN ?_ _ | refine blk_drew ?_ | refine blk_alloc ?_ _)); refine blk_far ?_ NB430_439.out _; (with_reducible repeat (first | refine blk_drewN ?_ _ | refine blk_drew ?_ | refine blk_alloc ?_ _)); refine blk_far ?_ NB430_439.out _; (with_reducible repeat (first | refine blk_drewN ?_ _ | refine blk_drew ?_ | refine blk_alloc ?_ _)); refine blk_far ?_ NB430_438.out _; (with_reducible repeat (first | refine blk_drewN ?_ _ | refine blk_drew ?_ | refine blk_alloc ?_ _)); refine blk_far ?_ NB430_438.out _; (with_reducible repeat (first | refine blk_drewN ?_ _ | refine blk_drew ?_ | refine blk_alloc ?_ _)); refine blk_far ?_ NB430_438.out _; (with_reducible repeat (first | refine blk_drewN ?_ _ | refine blk_drew ?_ | refine blk_alloc ?_ _)); exact BK430.out⟩
  have n3_ : Aside0 (((((((w21.setCell ⟨gb438, 0, none⟩ (.int .i64 t432)).setCell ⟨gb438, 1, none⟩ (.int .i64 t433)).setCell ⟨gb438, 2, none⟩ (.int .i64 t434)).setCell ⟨gb439, 0, none⟩ (.int .i64 t435)).setCell ⟨gb439, 1, none⟩ (.int .i64 t436)).setCell ⟨gb439, 2, none⟩ (.int .i64 t437)).heap[gb438]? = some (.cells #[.int .i64 t432, .int .i64 t433, .int .i64 t434] 28 (0, 0))) := ⟨by (with_reducible repeat (first | refine blk_drewN ?_ _ | refine blk_drew ?_ | refine blk_alloc ?_ _)); refine blk_far ?_ NB438_439.out _; (with_reducible repeat (first | refine blk_drewN ?_ _ | refine blk_drew ?_ | refine blk_alloc ?_ _)); refine blk_far ?_ NB438_439.out _; (with_reducible repeat (first | refine blk_drewN ?_ _ | refine blk_drew ?_ | refine blk_alloc ?_ _)); refine blk_far ?_ NB438_439.out _; (with_reducible repeat (first | refine blk_drewN ?_ _ | refine blk_drew ?_ | refine blk_alloc ?_ _)); refine blk_put (cs := #[.int .i64 t432, .int .i64 t433, .int .i64 0]) ?_ 2 _ rfl; (with_reducible repeat (first | refine blk_drewN ?_ _ | refine blk_drew ?_ | refine blk_alloc ?_ _)); refine blk_put (cs := #[.int .i64 t432, .int .i64 0, .int .i64 0]) ?_ 1 _ rfl; (with_reducible repeat (first | refine blk_drewN ?_ _ | refine blk_drew ?_ | refine blk_alloc ?_ _)); refine blk_put (cs := #[.int .i64 0, .int .i64 0, .int .i64 0]) ?_ 0 _ rfl; (with_reducible repeat (first | refine blk_drewN ?_ _ | refine blk_drew ?_ | refine blk_alloc ?_ _)); exact BK438.out⟩
  have n4_ : Aside0 (((((((w21.setCell ⟨gb438, 0, none⟩ (.int .i64 t432)).setCell ⟨gb438, 1, none⟩ (.int .i64 t433)).setCell ⟨gb438, 2, none⟩ (.int .i64 t434)).setCell ⟨gb439, 0, none⟩ (.int .i64 t435)).setCell ⟨gb439, 1, none⟩ (.int .i64 t436)).setCell ⟨gb439, 2, none⟩ (.int .i64 t437)).heap[gb439]? = some (.cells #[.int .i64 t435, .int .i64 t436, .int .i64 t437] 28 (0, 0))) := ⟨by (with_reducible repeat (first | refine blk_drewN ?_ _ | refine blk_drew ?_ | refine blk_alloc ?_ _)); refine blk_put (cs := #[.int .i64 t435, .int .i64 t436, .int .i64 0]) ?_ 2 _ rfl; (with_reducible repeat (first | refine blk_drewN ?_ _ | refine blk_drew ?_ | refine blk_alloc ?_ _)); refine blk_put (cs := #[.int .i64 t435, .int .i64 0, .int .i64 0]) ?_ 1 _ rfl; (with_reducible repeat (first | refine blk_drewN ?_ _ | refine blk_drew ?_ | refine blk_alloc ?_ _)); refine blk_put (cs := #[.int .i64 0, .int .i64 0, .int .i64 0]) ?_ 0 _ rfl; (with_reducible repeat (first | refine blk_drewN ?_ _ | refine blk_drew ?_ | refine blk_alloc ?_ _)); refine blk_far ?_ NB439_438.out _; (with_reducible repeat (first | refine blk_drewN ?_ _ | refine blk_drew ?_ | refine blk_alloc ?_ _)); refine blk_far ?_ NB439_438.out _; (with_reducible repeat (first | refine blk_drewN ?_ _ | refine blk_drew ?_ | refine blk_alloc ?_ _)); refine blk_far ?_ NB439_438.out _; (with_reducible repeat (first | refine blk_drewN ?_ _ | refine blk_drew ?_ | refine blk_alloc ?_ _)); exact BK439.out⟩
  have n5_ : Aside0 (Below w.heap.size w ((((((w21.setCell ⟨gb438, 0, none⟩ (.int .i64 t432)).setCell ⟨gb438, 1, none⟩ (.int .i64 t433)).setCell ⟨gb438, 2, none⟩ (.int .i64 t434)).setCell ⟨gb439, 0, none⟩ (.int .i64 t435)).setCell ⟨gb439, 1, none⟩ (.int .i64 t436)).setCell ⟨gb439, 2, none⟩ (.int .i64 t437))) := ⟨by repeat (first | (with_reducible first | exact HB.out | apply below_alloc | apply pw_below_drewN | apply below_drew1 | refine below_set ?_ GE428.out | refine below_set ?_ GE429.out | refine below_set ?_ GE430.out | refine below_set ?_ GE438.out | refine below_set ?_ GE439.out) | exact HB.out)⟩
  (try clear BK428)
  (try clear BK429)
  (try clear BK430)
  (try clear BK438)
  (try clear BK439)
  (try clear HB)
  generalize ((((((w21.setCell ⟨gb438, 0, none⟩ (.int .i64 t432)).setCell ⟨gb438, 1, none⟩ (.int .i64 t433)).setCell ⟨gb438, 2, none⟩ (.int .i64 t434)).setCell ⟨gb439, 0, none⟩ (.int .i64 t435)).setCell ⟨gb439, 1, none⟩ (.int .i64 t436)).setCell ⟨gb439, 2, none⟩ (.int .i64 t437)) = w28 at n0_ n1_ n2_ n3_ n4_ n5_ ⊢
  have BK428 := n0_
  have BK429 := n1_
  have BK430 := n2_
  have BK438 := n3_
  have BK439 := n4_
  have HB := n5_
  clear n0_ n1_ n2_ n3_ n4_ n5_
  replace BK428 := Aside0.mk (blk_drew BK428.out)
  replace BK429 := Aside0.mk (blk_drew BK429.out)
  replace BK430 := Aside0.mk (blk_drew BK430.out)
  replace BK438 := Aside0.mk (blk_drew BK438.out)
  replace BK439 := Aside0.mk (blk_drew BK439.out)
  replace HB := Aside0.mk (below_drew1 HB.out)
  refine start_ (n := 10) (S := fun w' => w'.cell? ⟨gb438, 0, none⟩ = some (.int .i64 t432) ∧ w'.cell? ⟨gb438, 1, none⟩ = some (.int .i64 t433) ∧ w'.cell? ⟨gb438, 2, none⟩ = some (.int .i64 t434) ∧ w'.cell? ⟨gb430, 0, none⟩ = some (.int .u16 a2_0) ∧ w'.cell? ⟨gb430, 1, none⟩ = some (.int .u16 a2_1) ∧ w'.cell? ⟨gb439, 0, none⟩ = some (.int .i64 t435) ∧ w'.cell? ⟨gb439, 1, none⟩ = some (.int .i64 t436) ∧ w'.cell? ⟨gb439, 2, none⟩ = some (.int .i64 t437)) (ds := []) #[false, false, false, false, false, false, false, false, false, false] (by kernel_rfl) rfl rfl ⟨(blk_cell BK438.out 0).trans rfl, (blk_cell BK438.out 1).trans rfl, (blk_cell BK438.out 2).trans rfl, (blk_cell BK430.out 0).trans rfl, (blk_cell BK430.out 1).trans rfl, (blk_cell BK439.out 0).trans rfl, (blk_cell BK439.out 1).trans rfl, (blk_cell BK439.out 2).trans rfl⟩ (fun hHeld => ?_); refine with_tabW warpwrightlaw25_SpanGreat.tab5 warpwrightlaw25_SpanGreat.bits5 (fun HT_ HW_ => ?_)
  generalize w28.drew = w29 at BK428 BK429 BK430 BK438 BK439 HB hHeld ⊢
  refine pure_ (i := 1) (N := some 22) (v := ?_) (a' := ?_) (bm_ 10 2) rfl rfl (any_of HT_.out (by kernel_rfl)) (fun _ _ _ h => h) (Or.inl ⟨by rfl, ?_⟩) ?_ ?_
  rotate_left
  ·intro w'
   go_simp
   with_reducible rfl
  rotate_left
  ·simp only [Act.put, List.setIfInBounds_toArray, List.set_cons_zero, List.set_cons_succ, i64_w, i32_w]
   rfl
  refine pure_ (i := 5) (N := some 26) (v := ?_) (a' := ?_) (bm_ 10 34) rfl rfl (any_of HT_.out (by kernel_rfl)) (fun _ _ _ h => h) (Or.inl ⟨by rfl, ?_⟩) ?_ ?_
  rotate_left
  ·intro w'
   go_simp
   with_reducible rfl
  rotate_left
  ·simp only [Act.put, List.setIfInBounds_toArray, List.set_cons_zero, List.set_cons_succ, i64_w, i32_w]
   rfl
  refine take_ (i := 0) (N := some 21) (v := ?_) (a' := ?_) (bm_ 10 35) rfl rfl (take_ofW HT_.out HW_.out (by kernel_rfl)) (fun _ _ _ h => h) (Or.inl ⟨by rfl, ?_⟩) hHeld ?_ ?_
  rotate_left
  ·rintro w' ⟨s0, s1, s2, s3, s4, s5, s6, s7⟩
   go_simp
   with_reducible rfl
  rotate_left
  ·simp only [Act.put, List.setIfInBounds_toArray, List.set_cons_zero, List.set_cons_succ, i64_w, i32_w]
   rfl
  refine take_ (i := 2) (N := some 23) (v := ?_) (a' := ?_) (bm_ 10 39) rfl rfl (take_ofW HT_.out HW_.out (by kernel_rfl)) (fun _ _ _ h => h) (Or.inl ⟨by rfl, ?_⟩) hHeld ?_ ?_
  rotate_left
  ·rintro w' ⟨s0, s1, s2, s3, s4, s5, s6, s7⟩
   go_simp
   with_reducible rfl
  rotate_left
  ·simp only [Act.put, List.setIfInBounds_toArray, List.set_cons_zero, List.set_cons_succ, i64_w, i32_w]
   rfl
  refine take_ (i := 4) (N := some 25) (v := ?_) (a' := ?_) (bm_ 10 55) rfl rfl (take_ofW HT_.out HW_.out (by kernel_rfl)) (fun _ _ _ h => h) (Or.inl ⟨by rfl, ?_⟩) hHeld ?_ ?_
  rotate_left
  ·rintro w' ⟨s0, s1, s2, s3, s4, s5, s6, s7⟩
   go_simp
   with_reducible rfl
  rotate_left
  ·simp only [Act.put, List.setIfInBounds_toArray, List.set_cons_zero, List.set_cons_succ, i64_w, i32_w]
   rfl
  refine take_ (i := 6) (N := some 27) (v := ?_) (a' := ?_) (bm_ 10 119) rfl rfl (take_ofW HT_.out HW_.out (by kernel_rfl)) (fun _ _ _ h => h) (Or.inl ⟨by rfl, ?_⟩) hHeld ?_ ?_
  rotate_left
  ·rintro w' ⟨s0, s1, s2, s3, s4, s5, s6, s7⟩
   go_simp
   with_reducible rfl
  rotate_left
  ·simp only [Act.put, List.setIfInBounds_toArray, List.set_cons_zero, List.set_cons_succ, i64_w, i32_w]
   rfl
  refine one_ (i := 3) (N := some 24) (bm_ 10 127) rfl rfl (one_of HT_.out (by kernel_rfl)) (by decide) (fun K hK => ?_)
  refine goes_ Try.func18 (by kernel_rfl) rfl #[.agg #[.int .i64 t432, .int .i64 t433, .int .i64 t434], .int .u16 a2_0] (by rfl) rfl rfl am_ ?_
  with_reducible refine (warpwrightlaw25_pick.calls t432 t433 t434 a2_0 t440 _ A8.out).mono ?_
  rintro e w30 ⟨rfl, hb⟩
  refine ⟨_, rfl, ?_⟩
  replace BK428 := Aside0.mk (bb_ BK428 hb)
  replace BK429 := Aside0.mk (bb_ BK429 hb)
  replace BK430 := Aside0.mk (bb_ BK430 hb)
  replace BK438 := Aside0.mk (bb_ BK438 hb)
  replace BK439 := Aside0.mk (bb_ BK439 hb)
  replace HB := Aside0.mk (below_step (bl_ HB) hb)
  (try clear hb)
  (try clear hb2)
  (try clear hk)
  (try clear hi)
  refine hK.out _ _ ⟨(blk_cell BK438.out 0).trans rfl, (blk_cell BK438.out 1).trans rfl, (blk_cell BK438.out 2).trans rfl, (blk_cell BK430.out 0).trans rfl, (blk_cell BK430.out 1).trans rfl, (blk_cell BK439.out 0).trans rfl, (blk_cell BK439.out 1).trans rfl, (blk_cell BK439.out 2).trans rfl⟩ (fun hHeld => ?_)
  clear hK K
  refine norm_ (a' := ?_) ?_ ?_
  rotate_left
  ·show Act.put _ (some 24) _ = _
   simp only [Act.put, List.setIfInBounds_toArray, List.set_cons_zero, List.set_cons_succ, i64_w, i32_w]
   rfl
  refine one_ (i := 7) (N := some 28) (bm_ 10 255) rfl rfl (one_of HT_.out (by kernel_rfl)) (by decide) (fun K hK => ?_)
  refine goes_ Try.func18 (by kernel_rfl) rfl #[.agg #[.int .i64 t435, .int .i64 t436, .int .i64 t437], .int .u16 a2_1] (by rfl) rfl rfl am_ ?_
  with_reducible refine (warpwrightlaw25_pick.calls t435 t436 t437 a2_1 t441 _ A9.out).mono ?_
  rintro e w31 ⟨rfl, hb⟩
  refine ⟨_, rfl, ?_⟩
  replace BK428 := Aside0.mk (bb_ BK428 hb)
  replace BK429 := Aside0.mk (bb_ BK429 hb)
  replace BK430 := Aside0.mk (bb_ BK430 hb)
  replace BK438 := Aside0.mk (bb_ BK438 hb)
  replace BK439 := Aside0.mk (bb_ BK439 hb)
  replace HB := Aside0.mk (below_step (bl_ HB) hb)
  (try clear hb)
  (try clear hb2)
  (try clear hk)
  (try clear hi)
  refine hK.out _ _ ⟨(blk_cell BK438.out 0).trans rfl, (blk_cell BK438.out 1).trans rfl, (blk_cell BK438.out 2).trans rfl, (blk_cell BK430.out 0).trans rfl, (blk_cell BK430.out 1).trans rfl, (blk_cell BK439.out 0).trans rfl, (blk_cell BK439.out 1).trans rfl, (blk_cell BK439.out 2).trans rfl⟩ (fun hHeld => ?_)
  clear hK K
  refine norm_ (a' := ?_) ?_ ?_
  rotate_left
  ·show Act.put _ (some 28) _ = _
   simp only [Act.put, List.setIfInBounds_toArray, List.set_cons_zero, List.set_cons_succ, i64_w, i32_w]
   rfl
  refine pure_ (i := 8) (N := some 29) (v := ?_) (a' := ?_) (bm_ 10 511) rfl rfl (any_of HT_.out (by kernel_rfl)) (fun _ _ _ h => h) (Or.inl ⟨by rfl, ?_⟩) ?_ ?_
  rotate_left
  ·intro w'
   go_simp
   with_reducible rfl
  rotate_left
  ·simp only [Act.put, List.setIfInBounds_toArray, List.set_cons_zero, List.set_cons_succ, i64_w, i32_w]
   rfl
  refine pure_ (i := 9) (N := some 10) (v := ?_) (a' := ?_) (bm_ 10 1023) rfl rfl (any_of HT_.out (by kernel_rfl)) (fun _ _ _ h => h) (Or.inl ⟨by rfl, ?_⟩) ?_ ?_
  rotate_left
  ·intro w'
   go_simp
   with_reducible rfl
  rotate_left
  ·simp only [Act.put, List.setIfInBounds_toArray, List.set_cons_zero, List.set_cons_succ, i64_w, i32_w]
   rfl
  refine done_ (done_of HT_.out (by kernel_rfl)) ?_
  have hnb32 := NB439_428.out
  have hnc32 := NB428_439.out
  have hnb33 := NB439_429.out
  have hnc33 := NB429_439.out
  have hnb34 := NB439_430.out
  have hnc34 := NB430_439.out
  have hnb35 := NB439_438.out
  have hnc35 := NB438_439.out
  have hcz36_0 : w31.cell? ⟨gb439, 0, none⟩ = some (.int .i64 t435) := (blk_cell BK439.out 0).trans rfl
  have hcz36_1 : w31.cell? ⟨gb439, 1, none⟩ = some (.int .i64 t436) := (blk_cell BK439.out 1).trans rfl
  have hcz36_2 : w31.cell? ⟨gb439, 2, none⟩ = some (.int .i64 t437) := (blk_cell BK439.out 2).trans rfl
  have hfz36_0 := blk_frozen BK439.out 0
  have hfz36_1 := blk_frozen BK439.out 1
  have hfz36_2 := blk_frozen BK439.out 2
  go_upto_if 42 with (first | ((with_reducible refine gate_dst (N := 11) rfl ?_); refine box_event ?hg (N := 11) ?hd (cs := #[.int .i64 0, .int .i64 0, .int .i64 0]) (t := 28) ?hr ?_; (case hd => rfl); (case hg => rfl); (case hr => first | (go_simp; done) | (go_simp; rfl)); intro gb442 hg w37 hbox hb; have BK442 := Aside0.mk (hbox); have GW442 := Aside0.mk ((by rw [hg]; exact (below_size (bl_ HB)) : w.heap.size ≤ gb442)); have GE442 := Aside0.mk ((by rw [hg]; exact (below_size (bl_ HB)) : w.heap.size ≤ gb442)); have NB428_442 := Aside0.mk (nl_ hg BK428); have NB442_428 := Aside0.mk (ng_ hg BK428); have NB429_442 := Aside0.mk (nl_ hg BK429); have NB442_429 := Aside0.mk (ng_ hg BK429); have NB430_442 := Aside0.mk (nl_ hg BK430); have NB442_430 := Aside0.mk (ng_ hg BK430); have NB438_442 := Aside0.mk (nl_ hg BK438); have NB442_438 := Aside0.mk (ng_ hg BK438); have NB439_442 := Aside0.mk (nl_ hg BK439); have NB442_439 := Aside0.mk (ng_ hg BK439); replace BK428 := Aside0.mk (bb_ BK428 hb); replace BK429 := Aside0.mk (bb_ BK429 hb); replace BK430 := Aside0.mk (bb_ BK430 hb); replace BK438 := Aside0.mk (bb_ BK438 hb); replace BK439 := Aside0.mk (bb_ BK439 hb); replace HB := Aside0.mk (below_step (bl_ HB) hb); clear hb hbox hg; have hnb38 := NB442_428.out; have hnc38 := NB428_442.out; have hnb39 := NB442_429.out; have hnc39 := NB429_442.out; have hnb40 := NB442_430.out; have hnc40 := NB430_442.out; have hnb41 := NB442_438.out; have hnc41 := NB438_442.out; have hnb42 := NB442_439.out; have hnc42 := NB439_442.out; have hcz43_0 : w37.cell? ⟨gb442, 0, none⟩ = some (.int .i64 0) := (blk_cell BK442.out 0).trans rfl; have hcz43_1 : w37.cell? ⟨gb442, 1, none⟩ = some (.int .i64 0) := (blk_cell BK442.out 1).trans rfl; have hcz43_2 : w37.cell? ⟨gb442, 2, none⟩ = some (.int .i64 0) := (blk_cell BK442.out 2).trans rfl; have hfz43_0 := blk_frozen BK442.out 0; have hfz43_1 := blk_frozen BK442.out 1; have hfz43_2 := blk_frozen BK442.out 2) | ((with_reducible refine gate_callee (f := 19) rfl ?_); refine goesL_ (some 42) rfl rfl Try.func19 (by kernel_rfl) rfl #[.agg #[.int .i64 (wrap64 (t435 + (wrap64 (t440 - t441)))), .int .i64 (wrap64 (t436 + (wrap64 (t440 - t441)))), .int .i64 t437]] rfl am_ ?_; (with_reducible refine (warpwrightref25_Valid.calls k (wrap64 (t435 + (wrap64 (t440 - t441)))) (wrap64 (t436 + (wrap64 (t440 - t441)))) t437 t443 _ A10.out).mono ?_); rintro e w44 ⟨rfl, hb⟩; refine ⟨_, rfl, ?_⟩; replace BK428 := Aside0.mk (blk_below (g := gb428) (o := .cells #[.int .i64 a0_0, .int .u32 a0_1, .int .u16 a0_2] 25 (0, 0)) (by (with_reducible repeat (first | refine blk_drewN ?_ _ | refine blk_drew ?_ | refine blk_alloc ?_ _)); refine blk_far ?_ NB428_442.out _; (with_reducible repeat (first | refine blk_drewN ?_ _ | refine blk_drew ?_ | refine blk_alloc ?_ _)); refine blk_far ?_ NB428_442.out _; (with_reducible repeat (first | refine blk_drewN ?_ _ | refine blk_drew ?_ | refine blk_alloc ?_ _)); refine blk_far ?_ NB428_442.out _; (with_reducible repeat (first | refine blk_drewN ?_ _ | refine blk_drew ?_ | refine blk_alloc ?_ _)); exact BK428.out) hb); replace BK429 := Aside0.mk (blk_below (g := gb429) (o := .cells #[.int .i64 a1_0, .int .u32 a1_1, .int .u16 a1_2] 25 (0, 0)) (by (with_reducible repeat (first | refine blk_drewN ?_ _ | refine blk_drew ?_ | refine blk_alloc ?_ _)); refine blk_far ?_ NB429_442.out _; (with_reducible repeat (first | refine blk_drewN ?_ _ | refine blk_drew ?_ | refine blk_alloc ?_ _)); refine blk_far ?_ NB429_442.out _; (with_reducible repeat (first | refine blk_drewN ?_ _ | refine blk_drew ?_ | refine blk_alloc ?_ _)); refine blk_far ?_ NB429_442.out _; (with_reducible repeat (first | refine blk_drewN ?_ _ | refine blk_drew ?_ | refine blk_alloc ?_ _)); exact BK429.out) hb); replace BK430 := Aside0.mk (blk_below (g := gb430) (o := .cells #[.int .u16 a2_0, .int .u16 a2_1] 38 (0, 0)) (by (with_reducible repeat (first | refine blk_drewN ?_ _ | refine blk_drew ?_ | refine blk_alloc ?_ _)); refine blk_far ?_ NB430_442.out _; (with_reducible repeat (first | refine blk_drewN ?_ _ | refine blk_drew ?_ | refine blk_alloc ?_ _)); refine blk_far ?_ NB430_442.out _; (with_reducible repeat (first | refine blk_drewN ?_ _ | refine blk_drew ?_ | refine blk_alloc ?_ _)); refine blk_far ?_ NB430_442.out _; (with_reducible repeat (first | refine blk_drewN ?_ _ | refine blk_drew ?_ | refine blk_alloc ?_ _)); exact BK430.out) hb); replace BK438 := Aside0.mk (blk_below (g := gb438) (o := .cells #[.int .i64 t432, .int .i64 t433, .int .i64 t434] 28 (0, 0)) (by (with_reducible repeat (first | refine blk_drewN ?_ _ | refine blk_drew ?_ | refine blk_alloc ?_ _)); refine blk_far ?_ NB438_442.out _; (with_reducible repeat (first | refine blk_drewN ?_ _ | refine blk_drew ?_ | refine blk_alloc ?_ _)); refine blk_far ?_ NB438_442.out _; (with_reducible repeat (first | refine blk_drewN ?_ _ | refine blk_drew ?_ | refine blk_alloc ?_ _)); refine blk_far ?_ NB438_442.out _; (with_reducible repeat (first | refine blk_drewN ?_ _ | refine blk_drew ?_ | refine blk_alloc ?_ _)); exact BK438.out) hb); replace BK439 := Aside0.mk (blk_below (g := gb439) (o := .cells #[.int .i64 t435, .int .i64 t436, .int .i64 t437] 28 (0, 0)) (by (with_reducible repeat (first | refine blk_drewN ?_ _ | refine blk_drew ?_ | refine blk_alloc ?_ _)); refine blk_far ?_ NB439_442.out _; (with_reducible repeat (first | refine blk_drewN ?_ _ | refine blk_drew ?_ | refine blk_alloc ?_ _)); refine blk_far ?_ NB439_442.out _; (with_reducible repeat (first | refine blk_drewN ?_ _ | refine blk_drew ?_ | refine blk_alloc ?_ _)); refine blk_far ?_ NB439_442.out _; (with_reducible repeat (first | refine blk_drewN ?_ _ | refine blk_drew ?_ | refine blk_alloc ?_ _)); exact BK439.out) hb); replace BK442 := Aside0.mk (blk_below (g := gb442) (o := .cells #[.int .i64 (wrap64 (t435 + (wrap64 (t440 - t441)))), .int .i64 (wrap64 (t436 + (wrap64 (t440 - t441)))), .int .i64 t437] 28 (0, 0)) (by (with_reducible repeat (first | refine blk_drewN ?_ _ | refine blk_drew ?_ | refine blk_alloc ?_ _)); refine blk_put (cs := #[.int .i64 (wrap64 (t435 + (wrap64 (t440 - t441)))), .int .i64 (wrap64 (t436 + (wrap64 (t440 - t441)))), .int .i64 0]) ?_ 2 _ rfl; (with_reducible repeat (first | refine blk_drewN ?_ _ | refine blk_drew ?_ | refine blk_alloc ?_ _)); refine blk_put (cs := #[.int .i64 (wrap64 (t435 + (wrap64 (t440 - t441)))), .int .i64 0, .int .i64 0]) ?_ 1 _ rfl; (with_reducible repeat (first | refine blk_drewN ?_ _ | refine blk_drew ?_ | refine blk_alloc ?_ _)); refine blk_put (cs := #[.int .i64 0, .int .i64 0, .int .i64 0]) ?_ 0 _ rfl; (with_reducible repeat (first | refine blk_drewN ?_ _ | refine blk_drew ?_ | refine blk_alloc ?_ _)); exact BK442.out) hb); replace HB := Aside0.mk (below_step (bl_ HB) hb); (try clear hb); (try clear hb2); (try clear hk); (try clear hi)))
  (try simp only [Act.put, List.setIfInBounds_toArray, List.set_cons_zero, List.set_cons_succ])
  go_cut [] (fun wc => ∃ (kq : Nat), Aside0 (warpwrightlaw25_SpanGreat.j0 kq true t432 t433 t434 t435 t436 t437 = some r) ∧ Aside0 (kq ≤ k) ∧ Aside0 (wc.heap[gb428]? = some (.cells #[.int .i64 a0_0, .int .u32 a0_1, .int .u16 a0_2] 25 (0, 0))) ∧ Aside0 (wc.heap[gb429]? = some (.cells #[.int .i64 a1_0, .int .u32 a1_1, .int .u16 a1_2] 25 (0, 0))) ∧ Aside0 (wc.heap[gb430]? = some (.cells #[.int .u16 a2_0, .int .u16 a2_1] 38 (0, 0))) ∧ Aside0 (wc.heap[gb438]? = some (.cells #[.int .i64 t432, .int .i64 t433, .int .i64 t434] 28 (0, 0))) ∧ Aside0 (wc.heap[gb439]? = some (.cells #[.int .i64 t435, .int .i64 t436, .int .i64 t437] 28 (0, 0))) ∧ Aside0 (wc.heap[gb442]? = some (.cells #[.int .i64 (wrap64 (t435 + (wrap64 (t440 - t441)))), .int .i64 (wrap64 (t436 + (wrap64 (t440 - t441)))), .int .i64 t437] 28 (0, 0))) ∧ Aside0 (Below w.heap.size w wc))
  case first =>
   have H := HC11.out
   clear HC11
   by_cases c45 : t443 = true
   ·subst c45
    have H1 : ((warpwrightlaw25_meet.f k t432 t433 t434 (wrap64 (t435 + (wrap64 (t440 - t441)))) (wrap64 (t436 + (wrap64 (t440 - t441)))) t437).bind fun bt444 => (if bt444.2.2.2 = true then ((warpwrightlaw25_pick.f t432 t433 t434 a2_0).bind fun t449 => ((span_Has.f bt444.1 bt444.2.1 bt444.2.2.1 t449).bind fun t450 => (if t450 = true then ((warpwrightlaw25_inside.f bt444.1 bt444.2.1 bt444.2.2.1 t432 t433 t434).bind fun t451 => (if t451 = true then ((warpwrightlaw25_inside.f bt444.1 bt444.2.1 bt444.2.2.1 (wrap64 (t435 + (wrap64 (t440 - t441)))) (wrap64 (t436 + (wrap64 (t440 - t441)))) t437).bind fun t452 => (if t452 = true then ((span_Apart.f k t432 t433 t434 (wrap64 (t435 + (wrap64 (t440 - t441)))) (wrap64 (t436 + (wrap64 (t440 - t441)))) t437).bind fun t453 => (if t453 = true then (none) else (warpwrightlaw25_SpanGreat.j0 k true t432 t433 t434 t435 t436 t437))) else (none))) else (none))) else (none)))) else (none))) = some r := by rw [if_pos rfl] at H; exact H
    clear H
    have H := H1
    clear H1
    replace H := Option.bind_eq_some_iff.mp H
    obtain ⟨⟨t444, t445, t446, t447⟩, A460, H⟩ := H
    replace H : (if t447 = true then ((warpwrightlaw25_pick.f t432 t433 t434 a2_0).bind fun t449 => ((span_Has.f t444 t445 t446 t449).bind fun t450 => (if t450 = true then ((warpwrightlaw25_inside.f t444 t445 t446 t432 t433 t434).bind fun t451 => (if t451 = true then ((warpwrightlaw25_inside.f t444 t445 t446 (wrap64 (t435 + (wrap64 (t440 - t441)))) (wrap64 (t436 + (wrap64 (t440 - t441)))) t437).bind fun t452 => (if t452 = true then ((span_Apart.f k t432 t433 t434 (wrap64 (t435 + (wrap64 (t440 - t441)))) (wrap64 (t436 + (wrap64 (t440 - t441)))) t437).bind fun t453 => (if t453 = true then (none) else (warpwrightlaw25_SpanGreat.j0 k true t432 t433 t434 t435 t436 t437))) else (none))) else (none))) else (none)))) else (none)) = some r := H
    have A46 := Aside0.mk A460
    clear A460
    by_cases c47 : t447 = true
    ·subst c47
     have H1 : ((warpwrightlaw25_pick.f t432 t433 t434 a2_0).bind fun t449 => ((span_Has.f t444 t445 t446 t449).bind fun t450 => (if t450 = true then ((warpwrightlaw25_inside.f t444 t445 t446 t432 t433 t434).bind fun t451 => (if t451 = true then ((warpwrightlaw25_inside.f t444 t445 t446 (wrap64 (t435 + (wrap64 (t440 - t441)))) (wrap64 (t436 + (wrap64 (t440 - t441)))) t437).bind fun t452 => (if t452 = true then ((span_Apart.f k t432 t433 t434 (wrap64 (t435 + (wrap64 (t440 - t441)))) (wrap64 (t436 + (wrap64 (t440 - t441)))) t437).bind fun t453 => (if t453 = true then (none) else (warpwrightlaw25_SpanGreat.j0 k true t432 t433 t434 t435 t436 t437))) else (none))) else (none))) else (none)))) = some r := by rw [if_pos rfl] at H; exact H
     clear H
     have H := H1
     clear H1
     replace H := Option.bind_eq_some_iff.mp H
     obtain ⟨t449, A480, H⟩ := H
     replace H : ((span_Has.f t444 t445 t446 t449).bind fun t450 => (if t450 = true then ((warpwrightlaw25_inside.f t444 t445 t446 t432 t433 t434).bind fun t451 => (if t451 = true then ((warpwrightlaw25_inside.f t444 t445 t446 (wrap64 (t435 + (wrap64 (t440 - t441)))) (wrap64 (t436 + (wrap64 (t440 - t441)))) t437).bind fun t452 => (if t452 = true then ((span_Apart.f k t432 t433 t434 (wrap64 (t435 + (wrap64 (t440 - t441)))) (wrap64 (t436 + (wrap64 (t440 - t441)))) t437).bind fun t453 => (if t453 = true then (none) else (warpwrightlaw25_SpanGreat.j0 k true t432 t433 t434 t435 t436 t437))) else (none))) else (none))) else (none))) = some r := H
     have A48 := Aside0.mk A480
     clear A480
     replace H := Option.bind_eq_some_iff.mp H
     obtain ⟨t450, A490, H⟩ := H
     replace H : (if t450 = true then ((warpwrightlaw25_inside.f t444 t445 t446 t432 t433 t434).bind fun t451 => (if t451 = true then ((warpwrightlaw25_inside.f t444 t445 t446 (wrap64 (t435 + (wrap64 (t440 - t441)))) (wrap64 (t436 + (wrap64 (t440 - t441)))) t437).bind fun t452 => (if t452 = true then ((span_Apart.f k t432 t433 t434 (wrap64 (t435 + (wrap64 (t440 - t441)))) (wrap64 (t436 + (wrap64 (t440 - t441)))) t437).bind fun t453 => (if t453 = true then (none) else (warpwrightlaw25_SpanGreat.j0 k true t432 t433 t434 t435 t436 t437))) else (none))) else (none))) else (none)) = some r := H
     have A49 := Aside0.mk A490
     clear A490
     by_cases c50 : t450 = true
     ·subst c50
      have H1 : ((warpwrightlaw25_inside.f t444 t445 t446 t432 t433 t434).bind fun t451 => (if t451 = true then ((warpwrightlaw25_inside.f t444 t445 t446 (wrap64 (t435 + (wrap64 (t440 - t441)))) (wrap64 (t436 + (wrap64 (t440 - t441)))) t437).bind fun t452 => (if t452 = true then ((span_Apart.f k t432 t433 t434 (wrap64 (t435 + (wrap64 (t440 - t441)))) (wrap64 (t436 + (wrap64 (t440 - t441)))) t437).bind fun t453 => (if t453 = true then (none) else (warpwrightlaw25_SpanGreat.j0 k true t432 t433 t434 t435 t436 t437))) else (none))) else (none))) = some r := by rw [if_pos rfl] at H; exact H
      clear H
      have H := H1
      clear H1
      replace H := Option.bind_eq_some_iff.mp H
      obtain ⟨t451, A510, H⟩ := H
      replace H : (if t451 = true then ((warpwrightlaw25_inside.f t444 t445 t446 (wrap64 (t435 + (wrap64 (t440 - t441)))) (wrap64 (t436 + (wrap64 (t440 - t441)))) t437).bind fun t452 => (if t452 = true then ((span_Apart.f k t432 t433 t434 (wrap64 (t435 + (wrap64 (t440 - t441)))) (wrap64 (t436 + (wrap64 (t440 - t441)))) t437).bind fun t453 => (if t453 = true then (none) else (warpwrightlaw25_SpanGreat.j0 k true t432 t433 t434 t435 t436 t437))) else (none))) else (none)) = some r := H
      have A51 := Aside0.mk A510
      clear A510
      by_cases c52 : t451 = true
      ·subst c52
       have H1 : ((warpwrightlaw25_inside.f t444 t445 t446 (wrap64 (t435 + (wrap64 (t440 - t441)))) (wrap64 (t436 + (wrap64 (t440 - t441)))) t437).bind fun t452 => (if t452 = true then ((span_Apart.f k t432 t433 t434 (wrap64 (t435 + (wrap64 (t440 - t441)))) (wrap64 (t436 + (wrap64 (t440 - t441)))) t437).bind fun t453 => (if t453 = true then (none) else (warpwrightlaw25_SpanGreat.j0 k true t432 t433 t434 t435 t436 t437))) else (none))) = some r := by rw [if_pos rfl] at H; exact H
       clear H
       have H := H1
       clear H1
       replace H := Option.bind_eq_some_iff.mp H
       obtain ⟨t452, A530, H⟩ := H
       replace H : (if t452 = true then ((span_Apart.f k t432 t433 t434 (wrap64 (t435 + (wrap64 (t440 - t441)))) (wrap64 (t436 + (wrap64 (t440 - t441)))) t437).bind fun t453 => (if t453 = true then (none) else (warpwrightlaw25_SpanGreat.j0 k true t432 t433 t434 t435 t436 t437))) else (none)) = some r := H
       have A53 := Aside0.mk A530
       clear A530
       by_cases c54 : t452 = true
       ·subst c54
        have H1 : ((span_Apart.f k t432 t433 t434 (wrap64 (t435 + (wrap64 (t440 - t441)))) (wrap64 (t436 + (wrap64 (t440 - t441)))) t437).bind fun t453 => (if t453 = true then (none) else (warpwrightlaw25_SpanGreat.j0 k true t432 t433 t434 t435 t436 t437))) = some r := by rw [if_pos rfl] at H; exact H
        clear H
        have H := H1
        clear H1
        replace H := Option.bind_eq_some_iff.mp H
        obtain ⟨t453, A550, H⟩ := H
        replace H : (if t453 = true then (none) else (warpwrightlaw25_SpanGreat.j0 k true t432 t433 t434 t435 t436 t437)) = some r := H
        have A55 := Aside0.mk A550
        clear A550
        by_cases c56 : t453 = true
        ·subst c56
         have H1 : (none) = some r := by rw [if_pos rfl] at H; exact H
         clear H
         have H := H1
         clear H1
         exact absurd H (by simp)
        ·replace c56 := Bool.eq_false_iff.mpr c56
         subst c56
         have H1 : (warpwrightlaw25_SpanGreat.j0 k true t432 t433 t434 t435 t436 t437) = some r := by rw [if_neg (show ¬ (false = true) by decide)] at H; exact H
         clear H
         have H := H1
         clear H1
         have H' := Aside0.mk H
         clear H
         have hnb57 := NB438_428.out
         have hnc57 := NB428_438.out
         have hnb58 := NB438_429.out
         have hnc58 := NB429_438.out
         have hnb59 := NB438_430.out
         have hnc59 := NB430_438.out
         have hnb60 := NB438_439.out
         have hnc60 := NB439_438.out
         have hnb61 := NB438_442.out
         have hnc61 := NB442_438.out
         have hcz62_0 : w44.cell? ⟨gb438, 0, none⟩ = some (.int .i64 t432) := (blk_cell BK438.out 0).trans rfl
         have hcz62_1 : w44.cell? ⟨gb438, 1, none⟩ = some (.int .i64 t433) := (blk_cell BK438.out 1).trans rfl
         have hcz62_2 : w44.cell? ⟨gb438, 2, none⟩ = some (.int .i64 t434) := (blk_cell BK438.out 2).trans rfl
         have hfz62_0 := blk_frozen BK438.out 0
         have hfz62_1 := blk_frozen BK438.out 1
         have hfz62_2 := blk_frozen BK438.out 2
         have hnb63 := NB442_428.out
         have hnc63 := NB428_442.out
         have hnb64 := NB442_429.out
         have hnc64 := NB429_442.out
         have hnb65 := NB442_430.out
         have hnc65 := NB430_442.out
         have hnb66 := NB442_439.out
         have hnc66 := NB439_442.out
         have hcz67_0 : w44.cell? ⟨gb442, 0, none⟩ = some (.int .i64 (wrap64 (t435 + (wrap64 (t440 - t441))))) := (blk_cell BK442.out 0).trans rfl
         have hcz67_1 : w44.cell? ⟨gb442, 1, none⟩ = some (.int .i64 (wrap64 (t436 + (wrap64 (t440 - t441))))) := (blk_cell BK442.out 1).trans rfl
         have hcz67_2 : w44.cell? ⟨gb442, 2, none⟩ = some (.int .i64 t437) := (blk_cell BK442.out 2).trans rfl
         have hfz67_0 := blk_frozen BK442.out 0
         have hfz67_1 := blk_frozen BK442.out 1
         have hfz67_2 := blk_frozen BK442.out 2
         try go_wp2_with (first | ((with_reducible refine gate_callee (f := 12) rfl ?_); refine goesL_ (some 45) rfl rfl Try.func12 (by kernel_rfl) rfl #[.agg #[.int .i64 t432, .int .i64 t433, .int .i64 t434], .agg #[.int .i64 (wrap64 (t435 + (wrap64 (t440 - t441)))), .int .i64 (wrap64 (t436 + (wrap64 (t440 - t441)))), .int .i64 t437]] rfl am_ ?_; (with_reducible refine (warpwrightlaw25_meet.calls k t432 t433 t434 (wrap64 (t435 + (wrap64 (t440 - t441)))) (wrap64 (t436 + (wrap64 (t440 - t441)))) t437 t444 t445 t446 true _ A46.out).mono ?_); rintro e w68 ⟨rfl, hb⟩; refine ⟨_, rfl, ?_⟩; replace BK428 := Aside0.mk (bb_ BK428 hb); replace BK429 := Aside0.mk (bb_ BK429 hb); replace BK430 := Aside0.mk (bb_ BK430 hb); replace BK438 := Aside0.mk (bb_ BK438 hb); replace BK439 := Aside0.mk (bb_ BK439 hb); replace BK442 := Aside0.mk (bb_ BK442 hb); replace HB := Aside0.mk (below_step (bl_ HB) hb); (try clear hb); (try clear hb2); (try clear hk); (try clear hi)) | ((with_reducible refine gate_dst (N := 12) rfl ?_); refine box_event ?hg (N := 12) ?hd (cs := #[.int .i64 0, .int .i64 0, .int .i64 0, .bool false]) (t := 31) ?hr ?_; (case hd => rfl); (case hg => rfl); (case hr => first | (go_simp; done) | (go_simp; rfl)); intro gb448 hg w69 hbox hb; have BK448 := Aside0.mk (hbox); have GW448 := Aside0.mk ((by rw [hg]; exact (below_size (bl_ HB)) : w.heap.size ≤ gb448)); have GE448 := Aside0.mk ((by rw [hg]; exact (below_size (bl_ HB)) : w.heap.size ≤ gb448)); have NB428_448 := Aside0.mk (nl_ hg BK428); have NB448_428 := Aside0.mk (ng_ hg BK428); have NB429_448 := Aside0.mk (nl_ hg BK429); have NB448_429 := Aside0.mk (ng_ hg BK429); have NB430_448 := Aside0.mk (nl_ hg BK430); have NB448_430 := Aside0.mk (ng_ hg BK430); have NB438_448 := Aside0.mk (nl_ hg BK438); have NB448_438 := Aside0.mk (ng_ hg BK438); have NB439_448 := Aside0.mk (nl_ hg BK439); have NB448_439 := Aside0.mk (ng_ hg BK439); have NB442_448 := Aside0.mk (nl_ hg BK442); have NB448_442 := Aside0.mk (ng_ hg BK442); replace BK428 := Aside0.mk (bb_ BK428 hb); replace BK429 := Aside0.mk (bb_ BK429 hb); replace BK430 := Aside0.mk (bb_ BK430 hb); replace BK438 := Aside0.mk (bb_ BK438 hb); replace BK439 := Aside0.mk (bb_ BK439 hb); replace BK442 := Aside0.mk (bb_ BK442 hb); replace HB := Aside0.mk (below_step (bl_ HB) hb); clear hb hbox hg; have hnb70 := NB448_428.out; have hnc70 := NB428_448.out; have hnb71 := NB448_429.out; have hnc71 := NB429_448.out; have hnb72 := NB448_430.out; have hnc72 := NB430_448.out; have hnb73 := NB448_438.out; have hnc73 := NB438_448.out; have hnb74 := NB448_439.out; have hnc74 := NB439_448.out; have hnb75 := NB448_442.out; have hnc75 := NB442_448.out; have hcz76_0 : w69.cell? ⟨gb448, 0, none⟩ = some (.int .i64 0) := (blk_cell BK448.out 0).trans rfl; have hcz76_1 : w69.cell? ⟨gb448, 1, none⟩ = some (.int .i64 0) := (blk_cell BK448.out 1).trans rfl; have hcz76_2 : w69.cell? ⟨gb448, 2, none⟩ = some (.int .i64 0) := (blk_cell BK448.out 2).trans rfl; have hcz76_3 : w69.cell? ⟨gb448, 3, none⟩ = some (.bool false) := (blk_cell BK448.out 3).trans rfl; have hfz76_0 := blk_frozen BK448.out 0; have hfz76_1 := blk_frozen BK448.out 1; have hfz76_2 := blk_frozen BK448.out 2; have hfz76_3 := blk_frozen BK448.out 3))
         have n0_ : Aside0 (((((w69.setCell ⟨gb448, 0, none⟩ (.int .i64 t444)).setCell ⟨gb448, 1, none⟩ (.int .i64 t445)).setCell ⟨gb448, 2, none⟩ (.int .i64 t446)).setCell ⟨gb448, 3, none⟩ (.bool true)).heap[gb428]? = some (.cells #[.int .i64 a0_0, .int .u32 a0_1, .int .u16 a0_2] 25 (0, 0))) := ⟨by (with_reducible repeat (first | refine blk_drewN ?_ _ | refine blk_drew ?_ | refine blk_alloc ?_ _)); refine blk_far ?_ NB428_448.out _; (with_reducible repeat (first | refine blk_drewN ?_ _ | refine blk_drew ?_ | refine blk_alloc ?_ _)); refine blk_far ?_ NB428_448.out _; (with_reducible repeat (first | refine blk_drewN ?_ _ | refine blk_drew ?_ | refine blk_alloc ?_ _)); refine blk_far ?_ NB428_448.out _; (with_reducible repeat (first | refine blk_drewN ?_ _ | refine blk_drew ?_ | refine blk_alloc ?_ _)); refine blk_far ?_ NB428_448.out _; (with_reducible repeat (first | refine blk_drewN ?_ _ | refine blk_drew ?_ | refine blk_alloc ?_ _)); exact BK428.out⟩
         have n1_ : Aside0 (((((w69.setCell ⟨gb448, 0, none⟩ (.int .i64 t444)).setCell ⟨gb448, 1, none⟩ (.int .i64 t445)).setCell ⟨gb448, 2, none⟩ (.int .i64 t446)).setCell ⟨gb448, 3, none⟩ (.bool true)).heap[gb429]? = some (.cells #[.int .i64 a1_0, .int .u32 a1_1, .int .u16 a1_2] 25 (0, 0))) := ⟨by (with_reducible repeat (first | refine blk_drewN ?_ _ | refine blk_drew ?_ | refine blk_alloc ?_ _)); refine blk_far ?_ NB429_448.out _; (with_reducible repeat (first | refine blk_drewN ?_ _ | refine blk_drew ?_ | refine blk_alloc ?_ _)); refine blk_far ?_ NB429_448.out _; (with_reducible repeat (first | refine blk_drewN ?_ _ | refine blk_drew ?_ | refine blk_alloc ?_ _)); refine blk_far ?_ NB429_448.out _; (with_reducible repeat (first | refine blk_drewN ?_ _ | refine blk_drew ?_ | refine blk_alloc ?_ _)); refine blk_far ?_ NB429_448.out _; (with_reducible repeat (first | refine blk_drewN ?_ _ | refine blk_drew ?_ | refine blk_alloc ?_ _)); exact BK429.out⟩
         have n2_ : Aside0 (((((w69.setCell ⟨gb448, 0, none⟩ (.int .i64 t444)).setCell ⟨gb448, 1, none⟩ (.int .i64 t445)).setCell ⟨gb448, 2, none⟩ (.int .i64 t446)).setCell ⟨gb448, 3, none⟩ (.bool true)).heap[gb430]? = some (.cells #[.int .u16 a2_0, .int .u16 a2_1] 38 (0, 0))) := ⟨by (with_reducible repeat (first | refine blk_drewN ?_ _ | refine blk_drew ?_ | refine blk_alloc ?_ _)); refine blk_far ?_ NB430_448.out _; (with_reducible repeat (first | refine blk_drewN ?_ _ | refine blk_drew ?_ | refine blk_alloc ?_ _)); refine blk_far ?_ NB430_448.out _; (with_reducible repeat (first | refine blk_drewN ?_ _ | refine blk_drew ?_ | refine blk_alloc ?_ _)); refine blk_far ?_ NB430_448.out _; (with_reducible repeat (first | refine blk_drewN ?_ _ | refine blk_drew ?_ | refine blk_alloc ?_ _)); refine blk_far ?_ NB430_448.out _; (with_reducible repeat (first | refine blk_drewN ?_ _ | refine blk_drew ?_ | refine blk_alloc ?_ _)); exact BK430.out⟩
         have n3_ : Aside0 (((((w69.setCell ⟨gb448, 0, none⟩ (.int .i64 t444)).setCell ⟨gb448, 1, none⟩ (.int .i64 t445)).setCell ⟨gb448, 2, none⟩ (.int .i64 t446)).setCell ⟨gb448, 3, none⟩ (.bool true)).heap[gb438]? = some (.cells #[.int .i64 t432, .int .i64 t433, .int .i64 t434] 28 (0, 0))) := ⟨by (with_reducible repeat (first | refine blk_drewN ?_ _ | refine blk_drew ?_ | refine blk_alloc ?_ _)); refine blk_far ?_ NB438_448.out _; (with_reducible repeat (first | refine blk_drewN ?_ _ | refine blk_drew ?_ | refine blk_alloc ?_ _)); refine blk_far ?_ NB438_448.out _; (with_reducible repeat (first | refine blk_drewN ?_ _ | refine blk_drew ?_ | refine blk_alloc ?_ _)); refine blk_far ?_ NB438_448.out _; (with_reducible repeat (first | refine blk_drewN ?_ _ | refine blk_drew ?_ | refine blk_alloc ?_ _)); refine blk_far ?_ NB438_448.out _; (with_reducible repeat (first | refine blk_drewN ?_ _ | refine blk_drew ?_ | refine blk_alloc ?_ _)); exact BK438.out⟩
         have n4_ : Aside0 (((((w69.setCell ⟨gb448, 0, none⟩ (.int .i64 t444)).setCell ⟨gb448, 1, none⟩ (.int .i64 t445)).setCell ⟨gb448, 2, none⟩ (.int .i64 t446)).setCell ⟨gb448, 3, none⟩ (.bool true)).heap[gb439]? = some (.cells #[.int .i64 t435, .int .i64 t436, .int .i64 t437] 28 (0, 0))) := ⟨by (with_reducible repeat (first | refine blk_drewN ?_ _ | refine blk_drew ?_ | refine blk_alloc ?_ _)); refine blk_far ?_ NB439_448.out _; (with_reducible repeat (first | refine blk_drewN ?_ _ | refine blk_drew ?_ | refine blk_alloc ?_ _)); refine blk_far ?_ NB439_448.out _; (with_reducible repeat (first | refine blk_drewN ?_ _ | refine blk_drew ?_ | refine blk_alloc ?_ _)); refine blk_far ?_ NB439_448.out _; (with_reducible repeat (first | refine blk_drewN ?_ _ | refine blk_drew ?_ | refine blk_alloc ?_ _)); refine blk_far ?_ NB439_448.out _; (with_reducible repeat (first | refine blk_drewN ?_ _ | refine blk_drew ?_ | refine blk_alloc ?_ _)); exact BK439.out⟩
         have n5_ : Aside0 (((((w69.setCell ⟨gb448, 0, none⟩ (.int .i64 t444)).setCell ⟨gb448, 1, none⟩ (.int .i64 t445)).setCell ⟨gb448, 2, none⟩ (.int .i64 t446)).setCell ⟨gb448, 3, none⟩ (.bool true)).heap[gb442]? = some (.cells #[.int .i64 (wrap64 (t435 + (wrap64 (t440 - t441)))), .int .i64 (wrap64 (t436 + (wrap64 (t440 - t441)))), .int .i64 t437] 28 (0, 0))) := ⟨by (with_reducible repeat (first | refine blk_drewN ?_ _ | refine blk_drew ?_ | refine blk_alloc ?_ _)); refine blk_far ?_ NB442_448.out _; (with_reducible repeat (first | refine blk_drewN ?_ _ | refine blk_drew ?_ | refine blk_alloc ?_ _)); refine blk_far ?_ NB442_448.out _; (with_reducible repeat (first | refine blk_drewN ?_ _ | refine blk_drew ?_ | refine blk_alloc ?_ _)); refine blk_far ?_ NB442_448.out _; (with_reducible repeat (first | refine blk_drewN ?_ _ | refine blk_drew ?_ | refine blk_alloc ?_ _)); refine blk_far ?_ NB442_448.out _; (with_reducible repeat (first | refine blk_drewN ?_ _ | refine blk_drew ?_ | refine blk_alloc ?_ _)); exact BK442.out⟩
         have n6_ : Aside0 (((((w69.setCell ⟨gb448, 0, none⟩ (.int .i64 t444)).setCell ⟨gb448, 1, none⟩ (.int .i64 t445)).setCell ⟨gb448, 2, none⟩ (.int .i64 t446)).setCell ⟨gb448, 3, none⟩ (.bool true)).heap[gb448]? = some (.cells #[.int .i64 t444, .int .i64 t445, .int .i64 t446, .bool true] 31 (0, 0))) := ⟨by (with_reducible repeat (first | refine blk_drewN ?_ _ | refine blk_drew ?_ | refine blk_alloc ?_ _)); refine blk_put (cs := #[.int .i64 t444, .int .i64 t445, .int .i64 t446, .bool false]) ?_ 3 _ rfl; (with_reducible repeat (first | refine blk_drewN ?_ _ | refine blk_drew ?_ | refine blk_alloc ?_ _)); refine blk_put (cs := #[.int .i64 t444, .int .i64 t445, .int .i64 0, .bool false]) ?_ 2 _ rfl; (with_reducible repeat (first | refine blk_drewN ?_ _ | refine blk_drew ?_ | refine blk_alloc ?_ _)); refine blk_put (cs := #[.int .i64 t444, .int .i64 0, .int .i64 0, .bool false]) ?_ 1 _ rfl; (with_reducible repeat (first | refine blk_drewN ?_ _ | refine blk_drew ?_ | refine blk_alloc ?_ _)); refine blk_put (cs := #[.int .i64 0, .int .i64 0, .int .i64 0, .bool false]) ?_ 0 _ rfl; (with_reducible repeat (first | refine blk_drewN ?_ _ | refine blk_drew ?_ | refine blk_alloc ?_ _)); exact BK448.out⟩
         have n7_ : Aside0 (Below w.heap.size w ((((w69.setCell ⟨gb448, 0, none⟩ (.int .i64 t444)).setCell ⟨gb448, 1, none⟩ (.int .i64 t445)).setCell ⟨gb448, 2, none⟩ (.int .i64 t446)).setCell ⟨gb448, 3, none⟩ (.bool true))) := ⟨by repeat (first | (with_reducible first | exact HB.out | apply below_alloc | apply pw_below_drewN | apply below_drew1 | refine below_set ?_ GE428.out | refine below_set ?_ GE429.out | refine below_set ?_ GE430.out | refine below_set ?_ GE438.out | refine below_set ?_ GE439.out | refine below_set ?_ GE442.out | refine below_set ?_ GE448.out) | exact HB.out)⟩
         (try clear BK428)
         (try clear BK429)
         (try clear BK430)
         (try clear BK438)
         (try clear BK439)
         (try clear BK442)
         (try clear BK448)
         (try clear HB)
         generalize ((((w69.setCell ⟨gb448, 0, none⟩ (.int .i64 t444)).setCell ⟨gb448, 1, none⟩ (.int .i64 t445)).setCell ⟨gb448, 2, none⟩ (.int .i64 t446)).setCell ⟨gb448, 3, none⟩ (.bool true)) = w77 at n0_ n1_ n2_ n3_ n4_ n5_ n6_ n7_ ⊢
         have BK428 := n0_
         have BK429 := n1_
         have BK430 := n2_
         have BK438 := n3_
         have BK439 := n4_
         have BK442 := n5_
         have BK448 := n6_
         have HB := n7_
         clear n0_ n1_ n2_ n3_ n4_ n5_ n6_ n7_
         replace BK428 := Aside0.mk (blk_drew BK428.out)
         replace BK429 := Aside0.mk (blk_drew BK429.out)
         replace BK430 := Aside0.mk (blk_drew BK430.out)
         replace BK438 := Aside0.mk (blk_drew BK438.out)
         replace BK439 := Aside0.mk (blk_drew BK439.out)
         replace BK442 := Aside0.mk (blk_drew BK442.out)
         replace BK448 := Aside0.mk (blk_drew BK448.out)
         replace HB := Aside0.mk (below_drew1 HB.out)
         refine start_ (n := 32) (S := fun w' => w'.cell? ⟨gb448, 0, none⟩ = some (.int .i64 t444) ∧ w'.cell? ⟨gb448, 1, none⟩ = some (.int .i64 t445) ∧ w'.cell? ⟨gb448, 2, none⟩ = some (.int .i64 t446) ∧ w'.cell? ⟨gb448, 3, none⟩ = some (.bool true) ∧ w'.cell? ⟨gb438, 0, none⟩ = some (.int .i64 t432) ∧ w'.cell? ⟨gb438, 1, none⟩ = some (.int .i64 t433) ∧ w'.cell? ⟨gb438, 2, none⟩ = some (.int .i64 t434) ∧ w'.cell? ⟨gb430, 0, none⟩ = some (.int .u16 a2_0) ∧ w'.cell? ⟨gb430, 1, none⟩ = some (.int .u16 a2_1) ∧ w'.cell? ⟨gb442, 0, none⟩ = some (.int .i64 (wrap64 (t435 + (wrap64 (t440 - t441))))) ∧ w'.cell? ⟨gb442, 1, none⟩ = some (.int .i64 (wrap64 (t436 + (wrap64 (t440 - t441))))) ∧ w'.cell? ⟨gb442, 2, none⟩ = some (.int .i64 t437)) (ds := []) #[false, false, false, false, false, false, false, false, false, false, false, false, false, false, false, false, false, false, false, false, false, false, false, false, false, false, false, false, false, false, false, false] (by kernel_rfl) rfl rfl ⟨(blk_cell BK448.out 0).trans rfl, (blk_cell BK448.out 1).trans rfl, (blk_cell BK448.out 2).trans rfl, (blk_cell BK448.out 3).trans rfl, (blk_cell BK438.out 0).trans rfl, (blk_cell BK438.out 1).trans rfl, (blk_cell BK438.out 2).trans rfl, (blk_cell BK430.out 0).trans rfl, (blk_cell BK430.out 1).trans rfl, (blk_cell BK442.out 0).trans rfl, (blk_cell BK442.out 1).trans rfl, (blk_cell BK442.out 2).trans rfl⟩ (fun hHeld => ?_); refine with_tabW warpwrightlaw25_SpanGreat.tab9 warpwrightlaw25_SpanGreat.bits9 (fun HT_ HW_ => ?_)
         generalize w77.drew = w78 at BK428 BK429 BK430 BK438 BK439 BK442 BK448 HB hHeld ⊢
         refine pure_ (i := 0) (N := some 46) (v := ?_) (a' := ?_) (bm_ 32 1) rfl rfl (any_of HT_.out (by kernel_rfl)) (fun _ _ _ h => h) (Or.inl ⟨by rfl, ?_⟩) ?_ ?_
         rotate_left
         ·intro w'
          go_simp
          with_reducible rfl
         rotate_left
         ·simp only [Act.put, List.setIfInBounds_toArray, List.set_cons_zero, List.set_cons_succ, i64_w, i32_w]
          rfl
         refine take_ (i := 1) (N := some 47) (v := ?_) (a' := ?_) (bm_ 32 3) rfl rfl (take_ofW HT_.out HW_.out (by kernel_rfl)) (fun _ _ _ h => h) (Or.inl ⟨by rfl, ?_⟩) hHeld ?_ ?_
         rotate_left
         ·rintro w' ⟨s0, s1, s2, s3, s4, s5, s6, s7, s8, s9, s10, s11⟩
          go_simp
          with_reducible rfl
         rotate_left
         ·simp only [Act.put, List.setIfInBounds_toArray, List.set_cons_zero, List.set_cons_succ, i64_w, i32_w]
          rfl
         refine pure_ (i := 2) (N := some 48) (v := ?_) (a' := ?_) (bm_ 32 7) rfl rfl (any_of HT_.out (by kernel_rfl)) (fun _ _ _ h => h) (Or.inl ⟨by rfl, ?_⟩) ?_ ?_
         rotate_left
         ·intro w'
          go_simp
          with_reducible rfl
         rotate_left
         ·simp only [Act.put, List.setIfInBounds_toArray, List.set_cons_zero, List.set_cons_succ, i64_w, i32_w]
          rfl
         refine pure_ (i := 3) (N := some 49) (v := ?_) (a' := ?_) (bm_ 32 15) rfl rfl (any_of HT_.out (by kernel_rfl)) (fun _ _ _ h => h) (Or.inl ⟨by rfl, ?_⟩) ?_ ?_
         rotate_left
         ·intro w'
          go_simp
          with_reducible rfl
         rotate_left
         ·simp only [Act.put, List.setIfInBounds_toArray, List.set_cons_zero, List.set_cons_succ, i64_w, i32_w]
          rfl
         refine pure_ (i := 4) (N := some 50) (v := ?_) (a' := ?_) (bm_ 32 31) rfl rfl (any_of HT_.out (by kernel_rfl)) (fun _ _ _ h => h) (Or.inl ⟨by rfl, ?_⟩) ?_ ?_
         rotate_left
         ·intro w'
          go_simp
          with_reducible rfl
         rotate_left
         ·simp only [Act.put, List.setIfInBounds_toArray, List.set_cons_zero, List.set_cons_succ, i64_w, i32_w]
          rfl
         refine pure_ (i := 7) (N := some 53) (v := ?_) (a' := ?_) (bm_ 32 159) rfl rfl (any_of HT_.out (by kernel_rfl)) (fun _ _ _ h => h) (Or.inl ⟨by rfl, ?_⟩) ?_ ?_
         rotate_left
         ·intro w'
          go_simp
          with_reducible rfl
         rotate_left
         ·simp only [Act.put, List.setIfInBounds_toArray, List.set_cons_zero, List.set_cons_succ, i64_w, i32_w]
          rfl
         refine take_ (i := 5) (N := some 51) (v := ?_) (a' := ?_) (bm_ 32 191) rfl rfl (take_ofW HT_.out HW_.out (by kernel_rfl)) (fun _ _ _ h => h) (Or.inl ⟨by rfl, ?_⟩) hHeld ?_ ?_
         rotate_left
         ·rintro w' ⟨s0, s1, s2, s3, s4, s5, s6, s7, s8, s9, s10, s11⟩
          go_simp
          with_reducible rfl
         rotate_left
         ·simp only [Act.put, List.setIfInBounds_toArray, List.set_cons_zero, List.set_cons_succ, i64_w, i32_w]
          rfl
         refine take_ (i := 6) (N := some 52) (v := ?_) (a' := ?_) (bm_ 32 255) rfl rfl (take_ofW HT_.out HW_.out (by kernel_rfl)) (fun _ _ _ h => h) (Or.inl ⟨by rfl, ?_⟩) hHeld ?_ ?_
         rotate_left
         ·rintro w' ⟨s0, s1, s2, s3, s4, s5, s6, s7, s8, s9, s10, s11⟩
          go_simp
          with_reducible rfl
         rotate_left
         ·simp only [Act.put, List.setIfInBounds_toArray, List.set_cons_zero, List.set_cons_succ, i64_w, i32_w]
          rfl
         refine take_ (i := 8) (N := some 54) (v := ?_) (a' := ?_) (bm_ 32 511) rfl rfl (take_ofW HT_.out HW_.out (by kernel_rfl)) (fun _ _ _ h => h) (Or.inl ⟨by rfl, ?_⟩) hHeld ?_ ?_
         rotate_left
         ·rintro w' ⟨s0, s1, s2, s3, s4, s5, s6, s7, s8, s9, s10, s11⟩
          go_simp
          with_reducible rfl
         rotate_left
         ·simp only [Act.put, List.setIfInBounds_toArray, List.set_cons_zero, List.set_cons_succ, i64_w, i32_w]
          rfl
         refine one_ (i := 9) (N := some 55) (bm_ 32 1023) rfl rfl (one_of HT_.out (by kernel_rfl)) (by decide) (fun K hK => ?_)
         refine goes_ Try.func18 (by kernel_rfl) rfl #[.agg #[.int .i64 t432, .int .i64 t433, .int .i64 t434], .int .u16 a2_0] (by rfl) rfl rfl am_ ?_
         with_reducible refine (warpwrightlaw25_pick.calls t432 t433 t434 a2_0 t449 _ A48.out).mono ?_
         rintro e w79 ⟨rfl, hb⟩
         refine ⟨_, rfl, ?_⟩
         replace BK428 := Aside0.mk (bb_ BK428 hb)
         replace BK429 := Aside0.mk (bb_ BK429 hb)
         replace BK430 := Aside0.mk (bb_ BK430 hb)
         replace BK438 := Aside0.mk (bb_ BK438 hb)
         replace BK439 := Aside0.mk (bb_ BK439 hb)
         replace BK442 := Aside0.mk (bb_ BK442 hb)
         replace BK448 := Aside0.mk (bb_ BK448 hb)
         replace HB := Aside0.mk (below_step (bl_ HB) hb)
         (try clear hb)
         (try clear hb2)
         (try clear hk)
         (try clear hi)
         refine hK.out _ _ ⟨(blk_cell BK448.out 0).trans rfl, (blk_cell BK448.out 1).trans rfl, (blk_cell BK448.out 2).trans rfl, (blk_cell BK448.out 3).trans rfl, (blk_cell BK438.out 0).trans rfl, (blk_cell BK438.out 1).trans rfl, (blk_cell BK438.out 2).trans rfl, (blk_cell BK430.out 0).trans rfl, (blk_cell BK430.out 1).trans rfl, (blk_cell BK442.out 0).trans rfl, (blk_cell BK442.out 1).trans rfl, (blk_cell BK442.out 2).trans rfl⟩ (fun hHeld => ?_)
         clear hK K
         refine norm_ (a' := ?_) ?_ ?_
         rotate_left
         ·show Act.put _ (some 55) _ = _
          simp only [Act.put, List.setIfInBounds_toArray, List.set_cons_zero, List.set_cons_succ, i64_w, i32_w]
          rfl
         refine one_ (i := 10) (N := some 56) (bm_ 32 2047) rfl rfl (one_of HT_.out (by kernel_rfl)) (by decide) (fun K hK => ?_)
         refine goes_ Try.func13 (by kernel_rfl) rfl #[.agg #[.int .i64 t444, .int .i64 t445, .int .i64 t446], .int .i64 t449] (by rfl) rfl rfl am_ ?_
         with_reducible refine (span_Has.calls t444 t445 t446 t449 true _ A49.out).mono ?_
         rintro e w80 ⟨rfl, hb⟩
         refine ⟨_, rfl, ?_⟩
         replace BK428 := Aside0.mk (bb_ BK428 hb)
         replace BK429 := Aside0.mk (bb_ BK429 hb)
         replace BK430 := Aside0.mk (bb_ BK430 hb)
         replace BK438 := Aside0.mk (bb_ BK438 hb)
         replace BK439 := Aside0.mk (bb_ BK439 hb)
         replace BK442 := Aside0.mk (bb_ BK442 hb)
         replace BK448 := Aside0.mk (bb_ BK448 hb)
         replace HB := Aside0.mk (below_step (bl_ HB) hb)
         (try clear hb)
         (try clear hb2)
         (try clear hk)
         (try clear hi)
         refine hK.out _ _ ⟨(blk_cell BK448.out 0).trans rfl, (blk_cell BK448.out 1).trans rfl, (blk_cell BK448.out 2).trans rfl, (blk_cell BK448.out 3).trans rfl, (blk_cell BK438.out 0).trans rfl, (blk_cell BK438.out 1).trans rfl, (blk_cell BK438.out 2).trans rfl, (blk_cell BK430.out 0).trans rfl, (blk_cell BK430.out 1).trans rfl, (blk_cell BK442.out 0).trans rfl, (blk_cell BK442.out 1).trans rfl, (blk_cell BK442.out 2).trans rfl⟩ (fun hHeld => ?_)
         clear hK K
         refine norm_ (a' := ?_) ?_ ?_
         rotate_left
         ·show Act.put _ (some 56) _ = _
          simp only [Act.put, List.setIfInBounds_toArray, List.set_cons_zero, List.set_cons_succ, i64_w, i32_w]
          rfl
         refine pure_ (i := 11) (N := some 57) (v := ?_) (a' := ?_) (bm_ 32 4095) rfl rfl (any_of HT_.out (by kernel_rfl)) (fun _ _ _ h => h) (Or.inl ⟨by rfl, ?_⟩) ?_ ?_
         rotate_left
         ·intro w'
          go_simp
          with_reducible rfl
         rotate_left
         ·simp only [Act.put, List.setIfInBounds_toArray, List.set_cons_zero, List.set_cons_succ, i64_w, i32_w]
          rfl
         refine pure_ (i := 12) (N := some 58) (v := ?_) (a' := ?_) (bm_ 32 8191) rfl rfl (any_of HT_.out (by kernel_rfl)) (fun _ _ _ h => h) (Or.inl ⟨by rfl, ?_⟩) ?_ ?_
         rotate_left
         ·intro w'
          go_simp
          with_reducible rfl
         rotate_left
         ·simp only [Act.put, List.setIfInBounds_toArray, List.set_cons_zero, List.set_cons_succ, i64_w, i32_w]
          rfl
         refine pure_ (i := 13) (N := some 59) (v := ?_) (a' := ?_) (bm_ 32 16383) rfl rfl (any_of HT_.out (by kernel_rfl)) (fun _ _ _ h => h) (Or.inl ⟨by rfl, ?_⟩) ?_ ?_
         rotate_left
         ·intro w'
          go_simp
          with_reducible rfl
         rotate_left
         ·simp only [Act.put, List.setIfInBounds_toArray, List.set_cons_zero, List.set_cons_succ, i64_w, i32_w]
          rfl
         refine pure_ (i := 14) (N := some 60) (v := ?_) (a' := ?_) (bm_ 32 32767) rfl rfl (any_of HT_.out (by kernel_rfl)) (fun _ _ _ h => h) (Or.inl ⟨by rfl, ?_⟩) ?_ ?_
         rotate_left
         ·intro w'
          go_simp
          with_reducible rfl
         rotate_left
         ·simp only [Act.put, List.setIfInBounds_toArray, List.set_cons_zero, List.set_cons_succ, i64_w, i32_w]
          rfl
         refine take_ (i := 15) (N := some 61) (v := ?_) (a' := ?_) (bm_ 32 65535) rfl rfl (take_ofW HT_.out HW_.out (by kernel_rfl)) (fun _ _ _ h => h) (Or.inl ⟨by rfl, ?_⟩) hHeld ?_ ?_
         rotate_left
         ·rintro w' ⟨s0, s1, s2, s3, s4, s5, s6, s7, s8, s9, s10, s11⟩
          go_simp
          with_reducible rfl
         rotate_left
         ·simp only [Act.put, List.setIfInBounds_toArray, List.set_cons_zero, List.set_cons_succ, i64_w, i32_w]
          rfl
         refine take_ (i := 16) (N := some 62) (v := ?_) (a' := ?_) (bm_ 32 131071) rfl rfl (take_ofW HT_.out HW_.out (by kernel_rfl)) (fun _ _ _ h => h) (Or.inl ⟨by rfl, ?_⟩) hHeld ?_ ?_
         rotate_left
         ·rintro w' ⟨s0, s1, s2, s3, s4, s5, s6, s7, s8, s9, s10, s11⟩
          go_simp
          with_reducible rfl
         rotate_left
         ·simp only [Act.put, List.setIfInBounds_toArray, List.set_cons_zero, List.set_cons_succ, i64_w, i32_w]
          rfl
         refine one_ (i := 17) (N := some 63) (bm_ 32 262143) rfl rfl (one_of HT_.out (by kernel_rfl)) (by decide) (fun K hK => ?_)
         refine goes_ Try.func20 (by kernel_rfl) rfl #[.agg #[.int .i64 t444, .int .i64 t445, .int .i64 t446], .agg #[.int .i64 t432, .int .i64 t433, .int .i64 t434]] (by rfl) rfl rfl am_ ?_
         with_reducible refine (warpwrightlaw25_inside.calls t444 t445 t446 t432 t433 t434 true _ A51.out).mono ?_
         rintro e w81 ⟨rfl, hb⟩
         refine ⟨_, rfl, ?_⟩
         replace BK428 := Aside0.mk (bb_ BK428 hb)
         replace BK429 := Aside0.mk (bb_ BK429 hb)
         replace BK430 := Aside0.mk (bb_ BK430 hb)
         replace BK438 := Aside0.mk (bb_ BK438 hb)
         replace BK439 := Aside0.mk (bb_ BK439 hb)
         replace BK442 := Aside0.mk (bb_ BK442 hb)
         replace BK448 := Aside0.mk (bb_ BK448 hb)
         replace HB := Aside0.mk (below_step (bl_ HB) hb)
         (try clear hb)
         (try clear hb2)
         (try clear hk)
         (try clear hi)
         refine hK.out _ _ ⟨(blk_cell BK448.out 0).trans rfl, (blk_cell BK448.out 1).trans rfl, (blk_cell BK448.out 2).trans rfl, (blk_cell BK448.out 3).trans rfl, (blk_cell BK438.out 0).trans rfl, (blk_cell BK438.out 1).trans rfl, (blk_cell BK438.out 2).trans rfl, (blk_cell BK430.out 0).trans rfl, (blk_cell BK430.out 1).trans rfl, (blk_cell BK442.out 0).trans rfl, (blk_cell BK442.out 1).trans rfl, (blk_cell BK442.out 2).trans rfl⟩ (fun hHeld => ?_)
         clear hK K
         refine norm_ (a' := ?_) ?_ ?_
         rotate_left
         ·show Act.put _ (some 63) _ = _
          simp only [Act.put, List.setIfInBounds_toArray, List.set_cons_zero, List.set_cons_succ, i64_w, i32_w]
          rfl
         refine pure_ (i := 18) (N := some 64) (v := ?_) (a' := ?_) (bm_ 32 524287) rfl rfl (any_of HT_.out (by kernel_rfl)) (fun _ _ _ h => h) (Or.inl ⟨by rfl, ?_⟩) ?_ ?_
         rotate_left
         ·intro w'
          go_simp
          with_reducible rfl
         rotate_left
         ·simp only [Act.put, List.setIfInBounds_toArray, List.set_cons_zero, List.set_cons_succ, i64_w, i32_w]
          rfl
         refine pure_ (i := 19) (N := some 65) (v := ?_) (a' := ?_) (bm_ 32 1048575) rfl rfl (any_of HT_.out (by kernel_rfl)) (fun _ _ _ h => h) (Or.inl ⟨by rfl, ?_⟩) ?_ ?_
         rotate_left
         ·intro w'
          go_simp
          with_reducible rfl
         rotate_left
         ·simp only [Act.put, List.setIfInBounds_toArray, List.set_cons_zero, List.set_cons_succ, i64_w, i32_w]
          rfl
         refine pure_ (i := 20) (N := some 66) (v := ?_) (a' := ?_) (bm_ 32 2097151) rfl rfl (any_of HT_.out (by kernel_rfl)) (fun _ _ _ h => h) (Or.inl ⟨by rfl, ?_⟩) ?_ ?_
         rotate_left
         ·intro w'
          go_simp
          with_reducible rfl
         rotate_left
         ·simp only [Act.put, List.setIfInBounds_toArray, List.set_cons_zero, List.set_cons_succ, i64_w, i32_w]
          rfl
         refine pure_ (i := 21) (N := some 67) (v := ?_) (a' := ?_) (bm_ 32 4194303) rfl rfl (any_of HT_.out (by kernel_rfl)) (fun _ _ _ h => h) (Or.inl ⟨by rfl, ?_⟩) ?_ ?_
         rotate_left
         ·intro w'
          go_simp
          with_reducible rfl
         rotate_left
         ·simp only [Act.put, List.setIfInBounds_toArray, List.set_cons_zero, List.set_cons_succ, i64_w, i32_w]
          rfl
         refine take_ (i := 22) (N := some 68) (v := ?_) (a' := ?_) (bm_ 32 8388607) rfl rfl (take_ofW HT_.out HW_.out (by kernel_rfl)) (fun _ _ _ h => h) (Or.inl ⟨by rfl, ?_⟩) hHeld ?_ ?_
         rotate_left
         ·rintro w' ⟨s0, s1, s2, s3, s4, s5, s6, s7, s8, s9, s10, s11⟩
          go_simp
          with_reducible rfl
         rotate_left
         ·simp only [Act.put, List.setIfInBounds_toArray, List.set_cons_zero, List.set_cons_succ, i64_w, i32_w]
          rfl
         refine take_ (i := 23) (N := some 69) (v := ?_) (a' := ?_) (bm_ 32 16777215) rfl rfl (take_ofW HT_.out HW_.out (by kernel_rfl)) (fun _ _ _ h => h) (Or.inl ⟨by rfl, ?_⟩) hHeld ?_ ?_
         rotate_left
         ·rintro w' ⟨s0, s1, s2, s3, s4, s5, s6, s7, s8, s9, s10, s11⟩
          go_simp
          with_reducible rfl
         rotate_left
         ·simp only [Act.put, List.setIfInBounds_toArray, List.set_cons_zero, List.set_cons_succ, i64_w, i32_w]
          rfl
         refine one_ (i := 24) (N := some 70) (bm_ 32 33554431) rfl rfl (one_of HT_.out (by kernel_rfl)) (by decide) (fun K hK => ?_)
         refine goes_ Try.func20 (by kernel_rfl) rfl #[.agg #[.int .i64 t444, .int .i64 t445, .int .i64 t446], .agg #[.int .i64 (wrap64 (t435 + (wrap64 (t440 - t441)))), .int .i64 (wrap64 (t436 + (wrap64 (t440 - t441)))), .int .i64 t437]] (by rfl) rfl rfl am_ ?_
         with_reducible refine (warpwrightlaw25_inside.calls t444 t445 t446 (wrap64 (t435 + (wrap64 (t440 - t441)))) (wrap64 (t436 + (wrap64 (t440 - t441)))) t437 true _ A53.out).mono ?_
         rintro e w82 ⟨rfl, hb⟩
         refine ⟨_, rfl, ?_⟩
         replace BK428 := Aside0.mk (bb_ BK428 hb)
         replace BK429 := Aside0.mk (bb_ BK429 hb)
         replace BK430 := Aside0.mk (bb_ BK430 hb)
         replace BK438 := Aside0.mk (bb_ BK438 hb)
         replace BK439 := Aside0.mk (bb_ BK439 hb)
         replace BK442 := Aside0.mk (bb_ BK442 hb)
         replace BK448 := Aside0.mk (bb_ BK448 hb)
         replace HB := Aside0.mk (below_step (bl_ HB) hb)
         (try clear hb)
         (try clear hb2)
         (try clear hk)
         (try clear hi)
         refine hK.out _ _ ⟨(blk_cell BK448.out 0).trans rfl, (blk_cell BK448.out 1).trans rfl, (blk_cell BK448.out 2).trans rfl, (blk_cell BK448.out 3).trans rfl, (blk_cell BK438.out 0).trans rfl, (blk_cell BK438.out 1).trans rfl, (blk_cell BK438.out 2).trans rfl, (blk_cell BK430.out 0).trans rfl, (blk_cell BK430.out 1).trans rfl, (blk_cell BK442.out 0).trans rfl, (blk_cell BK442.out 1).trans rfl, (blk_cell BK442.out 2).trans rfl⟩ (fun hHeld => ?_)
         clear hK K
         refine norm_ (a' := ?_) ?_ ?_
         rotate_left
         ·show Act.put _ (some 70) _ = _
          simp only [Act.put, List.setIfInBounds_toArray, List.set_cons_zero, List.set_cons_succ, i64_w, i32_w]
          rfl
         refine pure_ (i := 25) (N := some 71) (v := ?_) (a' := ?_) (bm_ 32 67108863) rfl rfl (any_of HT_.out (by kernel_rfl)) (fun _ _ _ h => h) (Or.inl ⟨by rfl, ?_⟩) ?_ ?_
         rotate_left
         ·intro w'
          go_simp
          with_reducible rfl
         rotate_left
         ·simp only [Act.put, List.setIfInBounds_toArray, List.set_cons_zero, List.set_cons_succ, i64_w, i32_w]
          rfl
         refine pure_ (i := 26) (N := some 72) (v := ?_) (a' := ?_) (bm_ 32 134217727) rfl rfl (any_of HT_.out (by kernel_rfl)) (fun _ _ _ h => h) (Or.inl ⟨by rfl, ?_⟩) ?_ ?_
         rotate_left
         ·intro w'
          go_simp
          with_reducible rfl
         rotate_left
         ·simp only [Act.put, List.setIfInBounds_toArray, List.set_cons_zero, List.set_cons_succ, i64_w, i32_w]
          rfl
         refine pure_ (i := 27) (N := some 73) (v := ?_) (a' := ?_) (bm_ 32 268435455) rfl rfl (any_of HT_.out (by kernel_rfl)) (fun _ _ _ h => h) (Or.inl ⟨by rfl, ?_⟩) ?_ ?_
         rotate_left
         ·intro w'
          go_simp
          with_reducible rfl
         rotate_left
         ·simp only [Act.put, List.setIfInBounds_toArray, List.set_cons_zero, List.set_cons_succ, i64_w, i32_w]
          rfl
         refine take_ (i := 28) (N := some 74) (v := ?_) (a' := ?_) (bm_ 32 536870911) rfl rfl (take_ofW HT_.out HW_.out (by kernel_rfl)) (fun _ _ _ h => h) (Or.inl ⟨by rfl, ?_⟩) hHeld ?_ ?_
         rotate_left
         ·rintro w' ⟨s0, s1, s2, s3, s4, s5, s6, s7, s8, s9, s10, s11⟩
          go_simp
          with_reducible rfl
         rotate_left
         ·simp only [Act.put, List.setIfInBounds_toArray, List.set_cons_zero, List.set_cons_succ, i64_w, i32_w]
          rfl
         refine take_ (i := 29) (N := some 75) (v := ?_) (a' := ?_) (bm_ 32 1073741823) rfl rfl (take_ofW HT_.out HW_.out (by kernel_rfl)) (fun _ _ _ h => h) (Or.inl ⟨by rfl, ?_⟩) hHeld ?_ ?_
         rotate_left
         ·rintro w' ⟨s0, s1, s2, s3, s4, s5, s6, s7, s8, s9, s10, s11⟩
          go_simp
          with_reducible rfl
         rotate_left
         ·simp only [Act.put, List.setIfInBounds_toArray, List.set_cons_zero, List.set_cons_succ, i64_w, i32_w]
          rfl
         refine one_ (i := 30) (N := some 76) (bm_ 32 2147483647) rfl rfl (one_of HT_.out (by kernel_rfl)) (by decide) (fun K hK => ?_)
         refine goes_ Try.func14 (by kernel_rfl) rfl #[.agg #[.int .i64 t432, .int .i64 t433, .int .i64 t434], .agg #[.int .i64 (wrap64 (t435 + (wrap64 (t440 - t441)))), .int .i64 (wrap64 (t436 + (wrap64 (t440 - t441)))), .int .i64 t437]] (by rfl) rfl rfl am_ ?_
         with_reducible refine (span_Apart.calls k t432 t433 t434 (wrap64 (t435 + (wrap64 (t440 - t441)))) (wrap64 (t436 + (wrap64 (t440 - t441)))) t437 false _ A55.out).mono ?_
         rintro e w83 ⟨rfl, hb⟩
         refine ⟨_, rfl, ?_⟩
         replace BK428 := Aside0.mk (bb_ BK428 hb)
         replace BK429 := Aside0.mk (bb_ BK429 hb)
         replace BK430 := Aside0.mk (bb_ BK430 hb)
         replace BK438 := Aside0.mk (bb_ BK438 hb)
         replace BK439 := Aside0.mk (bb_ BK439 hb)
         replace BK442 := Aside0.mk (bb_ BK442 hb)
         replace BK448 := Aside0.mk (bb_ BK448 hb)
         replace HB := Aside0.mk (below_step (bl_ HB) hb)
         (try clear hb)
         (try clear hb2)
         (try clear hk)
         (try clear hi)
         refine hK.out _ _ ⟨(blk_cell BK448.out 0).trans rfl, (blk_cell BK448.out 1).trans rfl, (blk_cell BK448.out 2).trans rfl, (blk_cell BK448.out 3).trans rfl, (blk_cell BK438.out 0).trans rfl, (blk_cell BK438.out 1).trans rfl, (blk_cell BK438.out 2).trans rfl, (blk_cell BK430.out 0).trans rfl, (blk_cell BK430.out 1).trans rfl, (blk_cell BK442.out 0).trans rfl, (blk_cell BK442.out 1).trans rfl, (blk_cell BK442.out 2).trans rfl⟩ (fun hHeld => ?_)
         clear hK K
         refine norm_ (a' := ?_) ?_ ?_
         rotate_left
         ·show Act.put _ (some 76) _ = _
          simp only [Act.put, List.setIfInBounds_toArray, List.set_cons_zero, List.set_cons_succ, i64_w, i32_w]
          rfl
         refine pure_ (i := 31) (N := some 77) (v := ?_) (a' := ?_) (bm_ 32 4294967295) rfl rfl (any_of HT_.out (by kernel_rfl)) (fun _ _ _ h => h) (Or.inl ⟨by rfl, ?_⟩) ?_ ?_
         rotate_left
         ·intro w'
          go_simp
          with_reducible rfl
         rotate_left
         ·simp only [Act.put, List.setIfInBounds_toArray, List.set_cons_zero, List.set_cons_succ, i64_w, i32_w]
          rfl
         refine done_ (done_of HT_.out (by kernel_rfl)) ?_
         try go_wp2
         go_meet
         case rel => exact ⟨_, H', ⟨by first | omega | exact Nat.le_refl _⟩, ⟨by (with_reducible repeat (first | refine blk_drewN ?_ _ | refine blk_drew ?_ | refine blk_alloc ?_ _)); exact BK428.out⟩, ⟨by (with_reducible repeat (first | refine blk_drewN ?_ _ | refine blk_drew ?_ | refine blk_alloc ?_ _)); exact BK429.out⟩, ⟨by (with_reducible repeat (first | refine blk_drewN ?_ _ | refine blk_drew ?_ | refine blk_alloc ?_ _)); exact BK430.out⟩, ⟨by (with_reducible repeat (first | refine blk_drewN ?_ _ | refine blk_drew ?_ | refine blk_alloc ?_ _)); exact BK438.out⟩, ⟨by (with_reducible repeat (first | refine blk_drewN ?_ _ | refine blk_drew ?_ | refine blk_alloc ?_ _)); exact BK439.out⟩, ⟨by (with_reducible repeat (first | refine blk_drewN ?_ _ | refine blk_drew ?_ | refine blk_alloc ?_ _)); exact BK442.out⟩, ⟨by repeat (first | (with_reducible first | exact HB.out | apply below_alloc | apply pw_below_drewN | apply below_drew1 | refine below_set ?_ GE428.out | refine below_set ?_ GE429.out | refine below_set ?_ GE430.out | refine below_set ?_ GE438.out | refine below_set ?_ GE439.out | refine below_set ?_ GE442.out | refine below_set ?_ GE448.out) | exact HB.out)⟩⟩
       ·replace c54 := Bool.eq_false_iff.mpr c54
        subst c54
        have H1 : (none) = some r := by rw [if_neg (show ¬ (false = true) by decide)] at H; exact H
        clear H
        have H := H1
        clear H1
        exact absurd H (by simp)
      ·replace c52 := Bool.eq_false_iff.mpr c52
       subst c52
       have H1 : (none) = some r := by rw [if_neg (show ¬ (false = true) by decide)] at H; exact H
       clear H
       have H := H1
       clear H1
       exact absurd H (by simp)
     ·replace c50 := Bool.eq_false_iff.mpr c50
      subst c50
      have H1 : (none) = some r := by rw [if_neg (show ¬ (false = true) by decide)] at H; exact H
      clear H
      have H := H1
      clear H1
      exact absurd H (by simp)
    ·replace c47 := Bool.eq_false_iff.mpr c47
     subst c47
     have H1 : (none) = some r := by rw [if_neg (show ¬ (false = true) by decide)] at H; exact H
     clear H
     have H := H1
     clear H1
     exact absurd H (by simp)
   ·replace c45 := Bool.eq_false_iff.mpr c45
    subst c45
    have H1 : (warpwrightlaw25_SpanGreat.j0 k true t432 t433 t434 t435 t436 t437) = some r := by rw [if_neg (show ¬ (false = true) by decide)] at H; exact H
    clear H
    have H := H1
    clear H1
    have H' := Aside0.mk H
    clear H
    go_wp2
    go_meet
    case rel => exact ⟨_, H', ⟨by first | omega | exact Nat.le_refl _⟩, ⟨by (with_reducible repeat (first | refine blk_drewN ?_ _ | refine blk_drew ?_ | refine blk_alloc ?_ _)); exact BK428.out⟩, ⟨by (with_reducible repeat (first | refine blk_drewN ?_ _ | refine blk_drew ?_ | refine blk_alloc ?_ _)); exact BK429.out⟩, ⟨by (with_reducible repeat (first | refine blk_drewN ?_ _ | refine blk_drew ?_ | refine blk_alloc ?_ _)); exact BK430.out⟩, ⟨by (with_reducible repeat (first | refine blk_drewN ?_ _ | refine blk_drew ?_ | refine blk_alloc ?_ _)); exact BK438.out⟩, ⟨by (with_reducible repeat (first | refine blk_drewN ?_ _ | refine blk_drew ?_ | refine blk_alloc ?_ _)); exact BK439.out⟩, ⟨by (with_reducible repeat (first | refine blk_drewN ?_ _ | refine blk_drew ?_ | refine blk_alloc ?_ _)); exact BK442.out⟩, ⟨by repeat (first | (with_reducible first | exact HB.out | apply below_alloc | apply pw_below_drewN | apply below_drew1 | refine below_set ?_ GE428.out | refine below_set ?_ GE429.out | refine below_set ?_ GE430.out | refine below_set ?_ GE438.out | refine below_set ?_ GE439.out | refine below_set ?_ GE442.out) | exact HB.out)⟩⟩
  case rest =>
   clear HC11
   try clear c1
   try clear c2
   try clear p2
   try clear c4
   try clear c5
   try clear c6
   try clear p6
   try clear c7
   try clear c12
   try clear c13
   try clear c14
   try clear c18
   try clear c20
   try clear c45
   try clear c47
   try clear c50
   try clear c52
   try clear c54
   try clear c56
   try clear c57
   try clear c58
   try clear c59
   try clear c60
   try clear c61
   try clear c63
   try clear c64
   try clear p64
   try clear c65
   try clear c66
   try clear c70
   try clear c71
   try clear c72
   try clear c73
   try clear c74
   try clear c75
   try clear hcz62_0
   try clear hcz62_1
   try clear hcz62_2
   try clear hcz67_0
   try clear hcz67_1
   try clear hcz67_2
   try clear hcz76_0
   try clear hcz76_1
   try clear hcz76_2
   try clear hcz76_3
   try clear hfz62_0
   try clear hfz62_1
   try clear hfz62_2
   try clear hfz67_0
   try clear hfz67_1
   try clear hfz67_2
   try clear hfz76_0
   try clear hfz76_1
   try clear hfz76_2
   try clear hfz76_3
   obtain ⟨kq, HA, HJ10, BK428, BK429, BK430, BK438, BK439, BK442, HB⟩ := hcut
   cases kq with
   | zero => exact absurd HA.out (by simp [warpwrightlaw25_SpanGreat.j0])
   | succ kj10 =>
    have H := HA.out
    clear HA
    simp only [warpwrightlaw25_SpanGreat.j0] at H
    replace H := Option.bind_eq_some_iff.mp H
    obtain ⟨t454, A840, H⟩ := H
    replace H : (if t454 > 0 then ((warpwrightlaw25_mod.f kj10 t432 t433 t434 t454).bind fun bt455 => ((warpwrightlaw25_mod.f kj10 t435 t436 t437 t454).bind fun bt459 => (if (!(bt455.1 == bt459.1) || (!(bt455.2.1 == bt459.2.1) || (!(bt455.2.2.1 == bt459.2.2.1)))) = true then ((span_Apart.f kj10 t432 t433 t434 t435 t436 t437).bind fun t463 => (if t463 = true then ((span_Apart.f kj10 t432 t433 t434 t435 t436 t437).bind fun t464 => ((span_Apart.f kj10 t435 t436 t437 t432 t433 t434).bind fun t465 => (if (t464 == t465) = true then ((warpwrightlaw25_meet.f kj10 t432 t433 t434 t435 t436 t437).bind fun bt466 => ((warpwrightlaw25_meet.f kj10 t435 t436 t437 t432 t433 t434).bind fun bt470 => (if ((bt466.1 == bt470.1 && (bt466.2.1 == bt470.2.1 && (bt466.2.2.1 == bt470.2.2.1))) && (bt466.2.2.2 == bt470.2.2.2)) = true then (some true) else (none)))) else (none)))) else (none))) else ((span_Apart.f kj10 t432 t433 t434 t435 t436 t437).bind fun t474 => ((span_Apart.f kj10 t435 t436 t437 t432 t433 t434).bind fun t475 => (if (t474 == t475) = true then ((warpwrightlaw25_meet.f kj10 t432 t433 t434 t435 t436 t437).bind fun bt476 => ((warpwrightlaw25_meet.f kj10 t435 t436 t437 t432 t433 t434).bind fun bt480 => (if ((bt476.1 == bt480.1 && (bt476.2.1 == bt480.2.1 && (bt476.2.2.1 == bt480.2.2.1))) && (bt476.2.2.2 == bt480.2.2.2)) = true then (some true) else (none)))) else (none))))))) else ((span_Apart.f kj10 t432 t433 t434 t435 t436 t437).bind fun t484 => ((span_Apart.f kj10 t435 t436 t437 t432 t433 t434).bind fun t485 => (if (t484 == t485) = true then ((warpwrightlaw25_meet.f kj10 t432 t433 t434 t435 t436 t437).bind fun bt486 => ((warpwrightlaw25_meet.f kj10 t435 t436 t437 t432 t433 t434).bind fun bt490 => (if ((bt486.1 == bt490.1 && (bt486.2.1 == bt490.2.1 && (bt486.2.2.1 == bt490.2.2.1))) && (bt486.2.2.2 == bt490.2.2.2)) = true then (some true) else (none)))) else (none))))) = some r := H
    have A84 := Aside0.mk A840
    clear A840
    by_cases c85 : t454 > 0
    ·rw [if_pos c85] at H
     have c85b0 : decide (0 < t454) = true := decide_eq_true c85
     clear c85
     replace H := Option.bind_eq_some_iff.mp H
     obtain ⟨⟨t455, t456, t457, t458⟩, A860, H⟩ := H
     replace H : ((warpwrightlaw25_mod.f kj10 t435 t436 t437 t454).bind fun bt459 => (if (!(t455 == bt459.1) || (!(t456 == bt459.2.1) || (!(t457 == bt459.2.2.1)))) = true then ((span_Apart.f kj10 t432 t433 t434 t435 t436 t437).bind fun t463 => (if t463 = true then ((span_Apart.f kj10 t432 t433 t434 t435 t436 t437).bind fun t464 => ((span_Apart.f kj10 t435 t436 t437 t432 t433 t434).bind fun t465 => (if (t464 == t465) = true then ((warpwrightlaw25_meet.f kj10 t432 t433 t434 t435 t436 t437).bind fun bt466 => ((warpwrightlaw25_meet.f kj10 t435 t436 t437 t432 t433 t434).bind fun bt470 => (if ((bt466.1 == bt470.1 && (bt466.2.1 == bt470.2.1 && (bt466.2.2.1 == bt470.2.2.1))) && (bt466.2.2.2 == bt470.2.2.2)) = true then (some true) else (none)))) else (none)))) else (none))) else ((span_Apart.f kj10 t432 t433 t434 t435 t436 t437).bind fun t474 => ((span_Apart.f kj10 t435 t436 t437 t432 t433 t434).bind fun t475 => (if (t474 == t475) = true then ((warpwrightlaw25_meet.f kj10 t432 t433 t434 t435 t436 t437).bind fun bt476 => ((warpwrightlaw25_meet.f kj10 t435 t436 t437 t432 t433 t434).bind fun bt480 => (if ((bt476.1 == bt480.1 && (bt476.2.1 == bt480.2.1 && (bt476.2.2.1 == bt480.2.2.1))) && (bt476.2.2.2 == bt480.2.2.2)) = true then (some true) else (none)))) else (none)))))) = some r := H
     have A86 := Aside0.mk A860
     clear A860
     replace H := Option.bind_eq_some_iff.mp H
     obtain ⟨⟨t459, t460, t461, t462⟩, A870, H⟩ := H
     replace H : (if (!(t455 == t459) || (!(t456 == t460) || (!(t457 == t461)))) = true then ((span_Apart.f kj10 t432 t433 t434 t435 t436 t437).bind fun t463 => (if t463 = true then ((span_Apart.f kj10 t432 t433 t434 t435 t436 t437).bind fun t464 => ((span_Apart.f kj10 t435 t436 t437 t432 t433 t434).bind fun t465 => (if (t464 == t465) = true then ((warpwrightlaw25_meet.f kj10 t432 t433 t434 t435 t436 t437).bind fun bt466 => ((warpwrightlaw25_meet.f kj10 t435 t436 t437 t432 t433 t434).bind fun bt470 => (if ((bt466.1 == bt470.1 && (bt466.2.1 == bt470.2.1 && (bt466.2.2.1 == bt470.2.2.1))) && (bt466.2.2.2 == bt470.2.2.2)) = true then (some true) else (none)))) else (none)))) else (none))) else ((span_Apart.f kj10 t432 t433 t434 t435 t436 t437).bind fun t474 => ((span_Apart.f kj10 t435 t436 t437 t432 t433 t434).bind fun t475 => (if (t474 == t475) = true then ((warpwrightlaw25_meet.f kj10 t432 t433 t434 t435 t436 t437).bind fun bt476 => ((warpwrightlaw25_meet.f kj10 t435 t436 t437 t432 t433 t434).bind fun bt480 => (if ((bt476.1 == bt480.1 && (bt476.2.1 == bt480.2.1 && (bt476.2.2.1 == bt480.2.2.1))) && (bt476.2.2.2 == bt480.2.2.2)) = true then (some true) else (none)))) else (none))))) = some r := H
     have A87 := Aside0.mk A870
     clear A870
     by_cases c88 : (!(t455 == t459) || (!(t456 == t460) || (!(t457 == t461)))) = true
     ·rw [if_pos c88] at H
      have c88b0 : (!(t455 == t459) || (!(t456 == t460) || (!(t457 == t461)))) = true := c88
      clear c88
      replace H := Option.bind_eq_some_iff.mp H
      obtain ⟨t463, A890, H⟩ := H
      replace H : (if t463 = true then ((span_Apart.f kj10 t432 t433 t434 t435 t436 t437).bind fun t464 => ((span_Apart.f kj10 t435 t436 t437 t432 t433 t434).bind fun t465 => (if (t464 == t465) = true then ((warpwrightlaw25_meet.f kj10 t432 t433 t434 t435 t436 t437).bind fun bt466 => ((warpwrightlaw25_meet.f kj10 t435 t436 t437 t432 t433 t434).bind fun bt470 => (if ((bt466.1 == bt470.1 && (bt466.2.1 == bt470.2.1 && (bt466.2.2.1 == bt470.2.2.1))) && (bt466.2.2.2 == bt470.2.2.2)) = true then (some true) else (none)))) else (none)))) else (none)) = some r := H
      have A89 := Aside0.mk A890
      clear A890
      by_cases c90 : t463 = true
      ·subst c90
       have H1 : ((span_Apart.f kj10 t432 t433 t434 t435 t436 t437).bind fun t464 => ((span_Apart.f kj10 t435 t436 t437 t432 t433 t434).bind fun t465 => (if (t464 == t465) = true then ((warpwrightlaw25_meet.f kj10 t432 t433 t434 t435 t436 t437).bind fun bt466 => ((warpwrightlaw25_meet.f kj10 t435 t436 t437 t432 t433 t434).bind fun bt470 => (if ((bt466.1 == bt470.1 && (bt466.2.1 == bt470.2.1 && (bt466.2.2.1 == bt470.2.2.1))) && (bt466.2.2.2 == bt470.2.2.2)) = true then (some true) else (none)))) else (none)))) = some r := by rw [if_pos rfl] at H; exact H
       clear H
       have H := H1
       clear H1
       replace H := Option.bind_eq_some_iff.mp H
       obtain ⟨t464, A910, H⟩ := H
       replace H : ((span_Apart.f kj10 t435 t436 t437 t432 t433 t434).bind fun t465 => (if (t464 == t465) = true then ((warpwrightlaw25_meet.f kj10 t432 t433 t434 t435 t436 t437).bind fun bt466 => ((warpwrightlaw25_meet.f kj10 t435 t436 t437 t432 t433 t434).bind fun bt470 => (if ((bt466.1 == bt470.1 && (bt466.2.1 == bt470.2.1 && (bt466.2.2.1 == bt470.2.2.1))) && (bt466.2.2.2 == bt470.2.2.2)) = true then (some true) else (none)))) else (none))) = some r := H
       have A91 := Aside0.mk A910
       clear A910
       replace H := Option.bind_eq_some_iff.mp H
       obtain ⟨t465, A920, H⟩ := H
       replace H : (if (t464 == t465) = true then ((warpwrightlaw25_meet.f kj10 t432 t433 t434 t435 t436 t437).bind fun bt466 => ((warpwrightlaw25_meet.f kj10 t435 t436 t437 t432 t433 t434).bind fun bt470 => (if ((bt466.1 == bt470.1 && (bt466.2.1 == bt470.2.1 && (bt466.2.2.1 == bt470.2.2.1))) && (bt466.2.2.2 == bt470.2.2.2)) = true then (some true) else (none)))) else (none)) = some r := H
       have A92 := Aside0.mk A920
       clear A920
       by_cases c93 : (t464 == t465) = true
       ·rw [if_pos c93] at H
        have c93b0 : (t464 == t465) = true := c93
        (try (have c93b1 : decide (t464 = t465) = true := by first | (simp; done) | simpa using c93))
        (try (have c93b2 : (t464 == t465) = true := by first | (simp; done) | simpa using c93))
        clear c93
        replace H := Option.bind_eq_some_iff.mp H
        obtain ⟨⟨t466, t467, t468, t469⟩, A940, H⟩ := H
        replace H : ((warpwrightlaw25_meet.f kj10 t435 t436 t437 t432 t433 t434).bind fun bt470 => (if ((t466 == bt470.1 && (t467 == bt470.2.1 && (t468 == bt470.2.2.1))) && (t469 == bt470.2.2.2)) = true then (some true) else (none))) = some r := H
        have A94 := Aside0.mk A940
        clear A940
        replace H := Option.bind_eq_some_iff.mp H
        obtain ⟨⟨t470, t471, t472, t473⟩, A950, H⟩ := H
        replace H : (if ((t466 == t470 && (t467 == t471 && (t468 == t472))) && (t469 == t473)) = true then (some true) else (none)) = some r := H
        have A95 := Aside0.mk A950
        clear A950
        by_cases c96 : ((t466 == t470 && (t467 == t471 && (t468 == t472))) && (t469 == t473)) = true
        ·rw [if_pos c96] at H
         have c96b0 : ((t466 == t470 && (t467 == t471 && (t468 == t472))) && (t469 == t473)) = true := c96
         clear c96
         obtain rfl := Option.some.inj H
         have hnb97 := NB438_428.out
         have hnc97 := NB428_438.out
         have hnb98 := NB438_429.out
         have hnc98 := NB429_438.out
         have hnb99 := NB438_430.out
         have hnc99 := NB430_438.out
         have hnb100 := NB438_439.out
         have hnc100 := NB439_438.out
         have hnb101 := NB438_442.out
         have hnc101 := NB442_438.out
         have hcz102_0 : wc.cell? ⟨gb438, 0, none⟩ = some (.int .i64 t432) := (blk_cell BK438.out 0).trans rfl
         have hcz102_1 : wc.cell? ⟨gb438, 1, none⟩ = some (.int .i64 t433) := (blk_cell BK438.out 1).trans rfl
         have hcz102_2 : wc.cell? ⟨gb438, 2, none⟩ = some (.int .i64 t434) := (blk_cell BK438.out 2).trans rfl
         have hfz102_0 := blk_frozen BK438.out 0
         have hfz102_1 := blk_frozen BK438.out 1
         have hfz102_2 := blk_frozen BK438.out 2
         have hnb103 := NB439_428.out
         have hnc103 := NB428_439.out
         have hnb104 := NB439_429.out
         have hnc104 := NB429_439.out
         have hnb105 := NB439_430.out
         have hnc105 := NB430_439.out
         have hnb106 := NB439_442.out
         have hnc106 := NB442_439.out
         have hcz107_0 : wc.cell? ⟨gb439, 0, none⟩ = some (.int .i64 t435) := (blk_cell BK439.out 0).trans rfl
         have hcz107_1 : wc.cell? ⟨gb439, 1, none⟩ = some (.int .i64 t436) := (blk_cell BK439.out 1).trans rfl
         have hcz107_2 : wc.cell? ⟨gb439, 2, none⟩ = some (.int .i64 t437) := (blk_cell BK439.out 2).trans rfl
         have hfz107_0 := blk_frozen BK439.out 0
         have hfz107_1 := blk_frozen BK439.out 1
         have hfz107_2 := blk_frozen BK439.out 2
         try go_wp2_with (first | ((with_reducible refine gate_callee (f := 21) rfl ?_); refine goesL_ (some 82) rfl rfl Try.func21 (by kernel_rfl) rfl #[.int .i64 t434, .int .i64 t437] rfl am_ ?_; (with_reducible refine (warpwrightref25_Gcd.calls kj10 t434 t437 t454 _ A84.out).mono ?_); rintro e w' ⟨rfl, ⟨nd, rfl⟩⟩; refine ⟨_, rfl, ?_⟩))
         (try (rw [drewN_self wc]; generalize hq_ : World.drewN wc _ = wc; replace BK428 : Aside0 (wc.heap[gb428]? = some (.cells #[.int .i64 a0_0, .int .u32 a0_1, .int .u16 a0_2] 25 (0, 0))) := ⟨by rw [← hq_]; exact (bk_ BK428)⟩; replace BK429 : Aside0 (wc.heap[gb429]? = some (.cells #[.int .i64 a1_0, .int .u32 a1_1, .int .u16 a1_2] 25 (0, 0))) := ⟨by rw [← hq_]; exact (bk_ BK429)⟩; replace BK430 : Aside0 (wc.heap[gb430]? = some (.cells #[.int .u16 a2_0, .int .u16 a2_1] 38 (0, 0))) := ⟨by rw [← hq_]; exact (bk_ BK430)⟩; replace BK438 : Aside0 (wc.heap[gb438]? = some (.cells #[.int .i64 t432, .int .i64 t433, .int .i64 t434] 28 (0, 0))) := ⟨by rw [← hq_]; exact (bk_ BK438)⟩; replace BK439 : Aside0 (wc.heap[gb439]? = some (.cells #[.int .i64 t435, .int .i64 t436, .int .i64 t437] 28 (0, 0))) := ⟨by rw [← hq_]; exact (bk_ BK439)⟩; replace BK442 : Aside0 (wc.heap[gb442]? = some (.cells #[.int .i64 (wrap64 (t435 + (wrap64 (t440 - t441)))), .int .i64 (wrap64 (t436 + (wrap64 (t440 - t441)))), .int .i64 t437] 28 (0, 0))) := ⟨by rw [← hq_]; exact (bk_ BK442)⟩; replace HB : Aside0 (Below w.heap.size w wc) := ⟨by rw [← hq_]; exact (bl_ HB)⟩; clear hq_))
         replace BK428 := Aside0.mk (blk_drew BK428.out)
         replace BK429 := Aside0.mk (blk_drew BK429.out)
         replace BK430 := Aside0.mk (blk_drew BK430.out)
         replace BK438 := Aside0.mk (blk_drew BK438.out)
         replace BK439 := Aside0.mk (blk_drew BK439.out)
         replace BK442 := Aside0.mk (blk_drew BK442.out)
         replace HB := Aside0.mk (below_drew1 HB.out)
         refine start_ (n := 19) (S := fun w' => w'.cell? ⟨gb438, 0, none⟩ = some (.int .i64 t432) ∧ w'.cell? ⟨gb438, 1, none⟩ = some (.int .i64 t433) ∧ w'.cell? ⟨gb438, 2, none⟩ = some (.int .i64 t434) ∧ w'.cell? ⟨gb439, 0, none⟩ = some (.int .i64 t435) ∧ w'.cell? ⟨gb439, 1, none⟩ = some (.int .i64 t436) ∧ w'.cell? ⟨gb439, 2, none⟩ = some (.int .i64 t437)) (ds := []) #[false, false, false, false, false, false, false, false, false, false, false, false, false, false, false, false, false, false, false] (by kernel_rfl) rfl rfl ⟨(blk_cell BK438.out 0).trans rfl, (blk_cell BK438.out 1).trans rfl, (blk_cell BK438.out 2).trans rfl, (blk_cell BK439.out 0).trans rfl, (blk_cell BK439.out 1).trans rfl, (blk_cell BK439.out 2).trans rfl⟩ (fun hHeld => ?_); refine with_tabW warpwrightlaw25_SpanGreat.tab12 warpwrightlaw25_SpanGreat.bits12 (fun HT_ HW_ => ?_)
         generalize wc.drew = w108 at BK428 BK429 BK430 BK438 BK439 BK442 HB hHeld ⊢
         refine pure_ (i := 0) (N := some 83) (v := ?_) (a' := ?_) (bm_ 19 1) rfl rfl (any_of HT_.out (by kernel_rfl)) (fun _ _ _ h => h) (Or.inl ⟨by rfl, ?_⟩) ?_ ?_
         rotate_left
         ·intro w'
          go_simp
          with_reducible rfl
         rotate_left
         ·simp only [Act.put, List.setIfInBounds_toArray, List.set_cons_zero, List.set_cons_succ, i64_w, i32_w]
          rfl
         refine pure_ (i := 1) (N := some 84) (v := ?_) (a' := ?_) (bm_ 19 3) rfl rfl (any_of HT_.out (by kernel_rfl)) (fun _ _ _ h => h) (Or.inl ⟨by rfl, ?_⟩) ?_ ?_
         rotate_left
         ·intro w'
          go_simp
          with_reducible rfl
         rotate_left
         ·simp only [Act.put, List.setIfInBounds_toArray, List.set_cons_zero, List.set_cons_succ, i64_w, i32_w]
          rfl
         refine pure_ (i := 2) (N := some 85) (v := ?_) (a' := ?_) (bm_ 19 7) rfl rfl (any_of HT_.out (by kernel_rfl)) (fun _ _ _ h => h) (Or.inl ⟨by rfl, ?_⟩) ?_ ?_
         rotate_left
         ·intro w'
          go_simp
          with_reducible rfl
         rotate_left
         ·simp only [Act.put, List.setIfInBounds_toArray, List.set_cons_zero, List.set_cons_succ, i64_w, i32_w]
          rfl
         refine pure_ (i := 4) (N := some 87) (v := ?_) (a' := ?_) (bm_ 19 23) rfl rfl (any_of HT_.out (by kernel_rfl)) (fun _ _ _ h => h) (Or.inl ⟨by rfl, ?_⟩) ?_ ?_
         rotate_left
         ·intro w'
          go_simp
          with_reducible rfl
         rotate_left
         ·simp only [Act.put, List.setIfInBounds_toArray, List.set_cons_zero, List.set_cons_succ, i64_w, i32_w]
          rfl
         refine pure_ (i := 8) (N := some 91) (v := ?_) (a' := ?_) (bm_ 19 279) rfl rfl (any_of HT_.out (by kernel_rfl)) (fun _ _ _ h => h) (Or.inl ⟨by rfl, ?_⟩) ?_ ?_
         rotate_left
         ·intro w'
          go_simp
          with_reducible rfl
         rotate_left
         ·simp only [Act.put, List.setIfInBounds_toArray, List.set_cons_zero, List.set_cons_succ, i64_w, i32_w]
          rfl
         refine take_ (i := 3) (N := some 86) (v := ?_) (a' := ?_) (bm_ 19 287) rfl rfl (take_ofW HT_.out HW_.out (by kernel_rfl)) (fun _ _ _ h => h) (Or.inl ⟨by rfl, ?_⟩) hHeld ?_ ?_
         rotate_left
         ·rintro w' ⟨s0, s1, s2, s3, s4, s5⟩
          go_simp
          with_reducible rfl
         rotate_left
         ·simp only [Act.put, List.setIfInBounds_toArray, List.set_cons_zero, List.set_cons_succ, i64_w, i32_w]
          rfl
         refine take_ (i := 7) (N := some 90) (v := ?_) (a' := ?_) (bm_ 19 415) rfl rfl (take_ofW HT_.out HW_.out (by kernel_rfl)) (fun _ _ _ h => h) (Or.inl ⟨by rfl, ?_⟩) hHeld ?_ ?_
         rotate_left
         ·rintro w' ⟨s0, s1, s2, s3, s4, s5⟩
          go_simp
          with_reducible rfl
         rotate_left
         ·simp only [Act.put, List.setIfInBounds_toArray, List.set_cons_zero, List.set_cons_succ, i64_w, i32_w]
          rfl
         refine one_ (i := 5) (N := some 88) (bm_ 19 447) rfl rfl (one_of HT_.out (by kernel_rfl)) (by decide) (fun K hK => ?_)
         refine goes_ Try.func22 (by kernel_rfl) rfl #[.agg #[.int .i64 t432, .int .i64 t433, .int .i64 t434], .int .i64 t454] (by rfl) rfl rfl am_ ?_
         with_reducible refine (warpwrightlaw25_mod.calls kj10 t432 t433 t434 t454 t455 t456 t457 t458 _ A86.out).mono ?_
         rintro e w109 ⟨rfl, hb⟩
         refine ⟨_, rfl, ?_⟩
         replace BK428 := Aside0.mk (bb_ BK428 hb)
         replace BK429 := Aside0.mk (bb_ BK429 hb)
         replace BK430 := Aside0.mk (bb_ BK430 hb)
         replace BK438 := Aside0.mk (bb_ BK438 hb)
         replace BK439 := Aside0.mk (bb_ BK439 hb)
         replace BK442 := Aside0.mk (bb_ BK442 hb)
         replace HB := Aside0.mk (below_step (bl_ HB) hb)
         (try clear hb)
         (try clear hb2)
         (try clear hk)
         (try clear hi)
         refine hK.out _ _ ⟨(blk_cell BK438.out 0).trans rfl, (blk_cell BK438.out 1).trans rfl, (blk_cell BK438.out 2).trans rfl, (blk_cell BK439.out 0).trans rfl, (blk_cell BK439.out 1).trans rfl, (blk_cell BK439.out 2).trans rfl⟩ (fun hHeld => ?_)
         clear hK K
         refine norm_ (a' := ?_) ?_ ?_
         rotate_left
         ·show Act.put _ (some 88) _ = _
          simp only [Act.put, List.setIfInBounds_toArray, List.set_cons_zero, List.set_cons_succ, i64_w, i32_w]
          rfl
         refine pure_ (i := 6) (N := some 89) (v := ?_) (a' := ?_) (bm_ 19 511) rfl rfl (any_of HT_.out (by kernel_rfl)) (fun _ _ _ h => h) (Or.inl ⟨by rfl, ?_⟩) ?_ ?_
         rotate_left
         ·intro w'
          go_simp
          with_reducible rfl
         rotate_left
         ·simp only [Act.put, List.setIfInBounds_toArray, List.set_cons_zero, List.set_cons_succ, i64_w, i32_w]
          rfl
         refine one_ (i := 9) (N := some 92) (bm_ 19 1023) rfl rfl (one_of HT_.out (by kernel_rfl)) (by decide) (fun K hK => ?_)
         refine goes_ Try.func22 (by kernel_rfl) rfl #[.agg #[.int .i64 t435, .int .i64 t436, .int .i64 t437], .int .i64 t454] (by rfl) rfl rfl am_ ?_
         with_reducible refine (warpwrightlaw25_mod.calls kj10 t435 t436 t437 t454 t459 t460 t461 t462 _ A87.out).mono ?_
         rintro e w110 ⟨rfl, hb⟩
         refine ⟨_, rfl, ?_⟩
         replace BK428 := Aside0.mk (bb_ BK428 hb)
         replace BK429 := Aside0.mk (bb_ BK429 hb)
         replace BK430 := Aside0.mk (bb_ BK430 hb)
         replace BK438 := Aside0.mk (bb_ BK438 hb)
         replace BK439 := Aside0.mk (bb_ BK439 hb)
         replace BK442 := Aside0.mk (bb_ BK442 hb)
         replace HB := Aside0.mk (below_step (bl_ HB) hb)
         (try clear hb)
         (try clear hb2)
         (try clear hk)
         (try clear hi)
         refine hK.out _ _ ⟨(blk_cell BK438.out 0).trans rfl, (blk_cell BK438.out 1).trans rfl, (blk_cell BK438.out 2).trans rfl, (blk_cell BK439.out 0).trans rfl, (blk_cell BK439.out 1).trans rfl, (blk_cell BK439.out 2).trans rfl⟩ (fun hHeld => ?_)
         clear hK K
         refine norm_ (a' := ?_) ?_ ?_
         rotate_left
         ·show Act.put _ (some 92) _ = _
          simp only [Act.put, List.setIfInBounds_toArray, List.set_cons_zero, List.set_cons_succ, i64_w, i32_w]
          rfl
         refine pure_ (i := 10) (N := some 93) (v := ?_) (a' := ?_) (bm_ 19 2047) rfl rfl (any_of HT_.out (by kernel_rfl)) (fun _ _ _ h => h) (Or.inl ⟨by rfl, ?_⟩) ?_ ?_
         rotate_left
         ·intro w'
          go_simp
          with_reducible rfl
         rotate_left
         ·simp only [Act.put, List.setIfInBounds_toArray, List.set_cons_zero, List.set_cons_succ, i64_w, i32_w]
          rfl
         refine pure_ (i := 11) (N := some 94) (v := ?_) (a' := ?_) (bm_ 19 4095) rfl rfl (any_of HT_.out (by kernel_rfl)) (fun _ _ _ h => h) (Or.inl ⟨by rfl, ?_⟩) ?_ ?_
         rotate_left
         ·intro w'
          go_simp
          with_reducible rfl
         rotate_left
         ·simp only [Act.put, List.setIfInBounds_toArray, List.set_cons_zero, List.set_cons_succ, i64_w, i32_w]
          rfl
         refine pure_ (i := 12) (N := some 95) (v := ?_) (a' := ?_) (bm_ 19 8191) rfl rfl (any_of HT_.out (by kernel_rfl)) (fun _ _ _ h => h) (Or.inl ⟨by rfl, ?_⟩) ?_ ?_
         rotate_left
         ·intro w'
          go_simp
          with_reducible rfl
         rotate_left
         ·simp only [Act.put, List.setIfInBounds_toArray, List.set_cons_zero, List.set_cons_succ, i64_w, i32_w]
          rfl
         refine pure_ (i := 13) (N := some 96) (v := ?_) (a' := ?_) (bm_ 19 16383) rfl rfl (any_of HT_.out (by kernel_rfl)) (fun _ _ _ h => h) (Or.inl ⟨by rfl, ?_⟩) ?_ ?_
         rotate_left
         ·intro w'
          go_simp
          with_reducible rfl
         rotate_left
         ·simp only [Act.put, List.setIfInBounds_toArray, List.set_cons_zero, List.set_cons_succ, i64_w, i32_w]
          rfl
         refine take_ (i := 14) (N := some 97) (v := ?_) (a' := ?_) (bm_ 19 32767) rfl rfl (take_ofW HT_.out HW_.out (by kernel_rfl)) (fun _ _ _ h => h) (Or.inl ⟨by rfl, ?_⟩) hHeld ?_ ?_
         rotate_left
         ·rintro w' ⟨s0, s1, s2, s3, s4, s5⟩
          go_simp
          with_reducible rfl
         rotate_left
         ·simp only [Act.put, List.setIfInBounds_toArray, List.set_cons_zero, List.set_cons_succ, i64_w, i32_w]
          rfl
         refine take_ (i := 15) (N := some 98) (v := ?_) (a' := ?_) (bm_ 19 65535) rfl rfl (take_ofW HT_.out HW_.out (by kernel_rfl)) (fun _ _ _ h => h) (Or.inl ⟨by rfl, ?_⟩) hHeld ?_ ?_
         rotate_left
         ·rintro w' ⟨s0, s1, s2, s3, s4, s5⟩
          go_simp
          with_reducible rfl
         rotate_left
         ·simp only [Act.put, List.setIfInBounds_toArray, List.set_cons_zero, List.set_cons_succ, i64_w, i32_w]
          rfl
         refine one_ (i := 16) (N := some 99) (bm_ 19 131071) rfl rfl (one_of HT_.out (by kernel_rfl)) (by decide) (fun K hK => ?_)
         refine goes_ Try.func14 (by kernel_rfl) rfl #[.agg #[.int .i64 t432, .int .i64 t433, .int .i64 t434], .agg #[.int .i64 t435, .int .i64 t436, .int .i64 t437]] (by rfl) rfl rfl am_ ?_
         with_reducible refine (span_Apart.calls kj10 t432 t433 t434 t435 t436 t437 true _ A89.out).mono ?_
         rintro e w111 ⟨rfl, hb⟩
         refine ⟨_, rfl, ?_⟩
         replace BK428 := Aside0.mk (bb_ BK428 hb)
         replace BK429 := Aside0.mk (bb_ BK429 hb)
         replace BK430 := Aside0.mk (bb_ BK430 hb)
         replace BK438 := Aside0.mk (bb_ BK438 hb)
         replace BK439 := Aside0.mk (bb_ BK439 hb)
         replace BK442 := Aside0.mk (bb_ BK442 hb)
         replace HB := Aside0.mk (below_step (bl_ HB) hb)
         (try clear hb)
         (try clear hb2)
         (try clear hk)
         (try clear hi)
         refine hK.out _ _ ⟨(blk_cell BK438.out 0).trans rfl, (blk_cell BK438.out 1).trans rfl, (blk_cell BK438.out 2).trans rfl, (blk_cell BK439.out 0).trans rfl, (blk_cell BK439.out 1).trans rfl, (blk_cell BK439.out 2).trans rfl⟩ (fun hHeld => ?_)
         clear hK K
         refine norm_ (a' := ?_) ?_ ?_
         rotate_left
         ·show Act.put _ (some 99) _ = _
          simp only [Act.put, List.setIfInBounds_toArray, List.set_cons_zero, List.set_cons_succ, i64_w, i32_w]
          rfl
         refine pure_ (i := 17) (N := some 100) (v := ?_) (a' := ?_) (bm_ 19 262143) rfl rfl (any_of HT_.out (by kernel_rfl)) (fun _ _ _ h => h) (Or.inl ⟨by rfl, ?_⟩) ?_ ?_
         rotate_left
         ·intro w'
          go_simp
          with_reducible rfl
         rotate_left
         ·simp only [Act.put, List.setIfInBounds_toArray, List.set_cons_zero, List.set_cons_succ, i64_w, i32_w]
          rfl
         refine pure_ (i := 18) (N := some 101) (v := ?_) (a' := ?_) (bm_ 19 524287) rfl rfl (any_of HT_.out (by kernel_rfl)) (fun _ _ _ h => h) (Or.inl ⟨by rfl, ?_⟩) ?_ ?_
         rotate_left
         ·intro w'
          go_simp
          with_reducible rfl
         rotate_left
         ·simp only [Act.put, List.setIfInBounds_toArray, List.set_cons_zero, List.set_cons_succ, i64_w, i32_w]
          rfl
         refine done_ (done_of HT_.out (by kernel_rfl)) ?_
         try go_wp2
         replace BK428 := Aside0.mk (blk_drew BK428.out)
         replace BK429 := Aside0.mk (blk_drew BK429.out)
         replace BK430 := Aside0.mk (blk_drew BK430.out)
         replace BK438 := Aside0.mk (blk_drew BK438.out)
         replace BK439 := Aside0.mk (blk_drew BK439.out)
         replace BK442 := Aside0.mk (blk_drew BK442.out)
         replace HB := Aside0.mk (below_drew1 HB.out)
         refine start_ (n := 20) (S := fun w' => w'.cell? ⟨gb438, 0, none⟩ = some (.int .i64 t432) ∧ w'.cell? ⟨gb438, 1, none⟩ = some (.int .i64 t433) ∧ w'.cell? ⟨gb438, 2, none⟩ = some (.int .i64 t434) ∧ w'.cell? ⟨gb439, 0, none⟩ = some (.int .i64 t435) ∧ w'.cell? ⟨gb439, 1, none⟩ = some (.int .i64 t436) ∧ w'.cell? ⟨gb439, 2, none⟩ = some (.int .i64 t437)) (ds := []) #[false, false, false, false, false, false, false, false, false, false, false, false, false, false, false, false, false, false, false, false] (by kernel_rfl) rfl rfl ⟨(blk_cell BK438.out 0).trans rfl, (blk_cell BK438.out 1).trans rfl, (blk_cell BK438.out 2).trans rfl, (blk_cell BK439.out 0).trans rfl, (blk_cell BK439.out 1).trans rfl, (blk_cell BK439.out 2).trans rfl⟩ (fun hHeld => ?_); refine with_tabW warpwrightlaw25_SpanGreat.tab14 warpwrightlaw25_SpanGreat.bits14 (fun HT_ HW_ => ?_)
         generalize w111.drew = w112 at BK428 BK429 BK430 BK438 BK439 BK442 HB hHeld ⊢
         refine take_ (i := 0) (N := some 102) (v := ?_) (a' := ?_) (bm_ 20 1) rfl rfl (take_ofW HT_.out HW_.out (by kernel_rfl)) (fun _ _ _ h => h) (Or.inl ⟨by rfl, ?_⟩) hHeld ?_ ?_
         rotate_left
         ·rintro w' ⟨s0, s1, s2, s3, s4, s5⟩
          go_simp
          with_reducible rfl
         rotate_left
         ·simp only [Act.put, List.setIfInBounds_toArray, List.set_cons_zero, List.set_cons_succ, i64_w, i32_w]
          rfl
         refine take_ (i := 1) (N := some 103) (v := ?_) (a' := ?_) (bm_ 20 3) rfl rfl (take_ofW HT_.out HW_.out (by kernel_rfl)) (fun _ _ _ h => h) (Or.inl ⟨by rfl, ?_⟩) hHeld ?_ ?_
         rotate_left
         ·rintro w' ⟨s0, s1, s2, s3, s4, s5⟩
          go_simp
          with_reducible rfl
         rotate_left
         ·simp only [Act.put, List.setIfInBounds_toArray, List.set_cons_zero, List.set_cons_succ, i64_w, i32_w]
          rfl
         refine take_ (i := 3) (N := some 105) (v := ?_) (a' := ?_) (bm_ 20 11) rfl rfl (take_ofW HT_.out HW_.out (by kernel_rfl)) (fun _ _ _ h => h) (Or.inl ⟨by rfl, ?_⟩) hHeld ?_ ?_
         rotate_left
         ·rintro w' ⟨s0, s1, s2, s3, s4, s5⟩
          go_simp
          with_reducible rfl
         rotate_left
         ·simp only [Act.put, List.setIfInBounds_toArray, List.set_cons_zero, List.set_cons_succ, i64_w, i32_w]
          rfl
         refine take_ (i := 4) (N := some 106) (v := ?_) (a' := ?_) (bm_ 20 27) rfl rfl (take_ofW HT_.out HW_.out (by kernel_rfl)) (fun _ _ _ h => h) (Or.inl ⟨by rfl, ?_⟩) hHeld ?_ ?_
         rotate_left
         ·rintro w' ⟨s0, s1, s2, s3, s4, s5⟩
          go_simp
          with_reducible rfl
         rotate_left
         ·simp only [Act.put, List.setIfInBounds_toArray, List.set_cons_zero, List.set_cons_succ, i64_w, i32_w]
          rfl
         refine one_ (i := 2) (N := some 104) (bm_ 20 31) rfl rfl (one_of HT_.out (by kernel_rfl)) (by decide) (fun K hK => ?_)
         refine goes_ Try.func14 (by kernel_rfl) rfl #[.agg #[.int .i64 t432, .int .i64 t433, .int .i64 t434], .agg #[.int .i64 t435, .int .i64 t436, .int .i64 t437]] (by rfl) rfl rfl am_ ?_
         with_reducible refine (span_Apart.calls kj10 t432 t433 t434 t435 t436 t437 t464 _ A91.out).mono ?_
         rintro e w113 ⟨rfl, hb⟩
         refine ⟨_, rfl, ?_⟩
         replace BK428 := Aside0.mk (bb_ BK428 hb)
         replace BK429 := Aside0.mk (bb_ BK429 hb)
         replace BK430 := Aside0.mk (bb_ BK430 hb)
         replace BK438 := Aside0.mk (bb_ BK438 hb)
         replace BK439 := Aside0.mk (bb_ BK439 hb)
         replace BK442 := Aside0.mk (bb_ BK442 hb)
         replace HB := Aside0.mk (below_step (bl_ HB) hb)
         (try clear hb)
         (try clear hb2)
         (try clear hk)
         (try clear hi)
         refine hK.out _ _ ⟨(blk_cell BK438.out 0).trans rfl, (blk_cell BK438.out 1).trans rfl, (blk_cell BK438.out 2).trans rfl, (blk_cell BK439.out 0).trans rfl, (blk_cell BK439.out 1).trans rfl, (blk_cell BK439.out 2).trans rfl⟩ (fun hHeld => ?_)
         clear hK K
         refine norm_ (a' := ?_) ?_ ?_
         rotate_left
         ·show Act.put _ (some 104) _ = _
          simp only [Act.put, List.setIfInBounds_toArray, List.set_cons_zero, List.set_cons_succ, i64_w, i32_w]
          rfl
         refine one_ (i := 5) (N := some 107) (bm_ 20 63) rfl rfl (one_of HT_.out (by kernel_rfl)) (by decide) (fun K hK => ?_)
         refine goes_ Try.func14 (by kernel_rfl) rfl #[.agg #[.int .i64 t435, .int .i64 t436, .int .i64 t437], .agg #[.int .i64 t432, .int .i64 t433, .int .i64 t434]] (by rfl) rfl rfl am_ ?_
         with_reducible refine (span_Apart.calls kj10 t435 t436 t437 t432 t433 t434 t465 _ A92.out).mono ?_
         rintro e w114 ⟨rfl, hb⟩
         refine ⟨_, rfl, ?_⟩
         replace BK428 := Aside0.mk (bb_ BK428 hb)
         replace BK429 := Aside0.mk (bb_ BK429 hb)
         replace BK430 := Aside0.mk (bb_ BK430 hb)
         replace BK438 := Aside0.mk (bb_ BK438 hb)
         replace BK439 := Aside0.mk (bb_ BK439 hb)
         replace BK442 := Aside0.mk (bb_ BK442 hb)
         replace HB := Aside0.mk (below_step (bl_ HB) hb)
         (try clear hb)
         (try clear hb2)
         (try clear hk)
         (try clear hi)
         refine hK.out _ _ ⟨(blk_cell BK438.out 0).trans rfl, (blk_cell BK438.out 1).trans rfl, (blk_cell BK438.out 2).trans rfl, (blk_cell BK439.out 0).trans rfl, (blk_cell BK439.out 1).trans rfl, (blk_cell BK439.out 2).trans rfl⟩ (fun hHeld => ?_)
         clear hK K
         refine norm_ (a' := ?_) ?_ ?_
         rotate_left
         ·show Act.put _ (some 107) _ = _
          simp only [Act.put, List.setIfInBounds_toArray, List.set_cons_zero, List.set_cons_succ, i64_w, i32_w]
          rfl
         refine pure_ (i := 6) (N := some 108) (v := ?_) (a' := ?_) (bm_ 20 127) rfl rfl (any_of HT_.out (by kernel_rfl)) (fun _ _ _ h => h) (Or.inl ⟨by rfl, ?_⟩) ?_ ?_
         rotate_left
         ·intro w'
          go_simp
          with_reducible rfl
         rotate_left
         ·simp only [Act.put, List.setIfInBounds_toArray, List.set_cons_zero, List.set_cons_succ, i64_w, i32_w]
          rfl
         refine pure_ (i := 7) (N := some 109) (v := ?_) (a' := ?_) (bm_ 20 255) rfl rfl (any_of HT_.out (by kernel_rfl)) (fun _ _ _ h => h) (Or.inl ⟨by rfl, ?_⟩) ?_ ?_
         rotate_left
         ·intro w'
          go_simp
          with_reducible rfl
         rotate_left
         ·simp only [Act.put, List.setIfInBounds_toArray, List.set_cons_zero, List.set_cons_succ, i64_w, i32_w]
          rfl
         refine take_ (i := 8) (N := some 110) (v := ?_) (a' := ?_) (bm_ 20 511) rfl rfl (take_ofW HT_.out HW_.out (by kernel_rfl)) (fun _ _ _ h => h) (Or.inl ⟨by rfl, ?_⟩) hHeld ?_ ?_
         rotate_left
         ·rintro w' ⟨s0, s1, s2, s3, s4, s5⟩
          go_simp
          with_reducible rfl
         rotate_left
         ·simp only [Act.put, List.setIfInBounds_toArray, List.set_cons_zero, List.set_cons_succ, i64_w, i32_w]
          rfl
         refine take_ (i := 9) (N := some 111) (v := ?_) (a' := ?_) (bm_ 20 1023) rfl rfl (take_ofW HT_.out HW_.out (by kernel_rfl)) (fun _ _ _ h => h) (Or.inl ⟨by rfl, ?_⟩) hHeld ?_ ?_
         rotate_left
         ·rintro w' ⟨s0, s1, s2, s3, s4, s5⟩
          go_simp
          with_reducible rfl
         rotate_left
         ·simp only [Act.put, List.setIfInBounds_toArray, List.set_cons_zero, List.set_cons_succ, i64_w, i32_w]
          rfl
         refine take_ (i := 11) (N := some 113) (v := ?_) (a' := ?_) (bm_ 20 3071) rfl rfl (take_ofW HT_.out HW_.out (by kernel_rfl)) (fun _ _ _ h => h) (Or.inl ⟨by rfl, ?_⟩) hHeld ?_ ?_
         rotate_left
         ·rintro w' ⟨s0, s1, s2, s3, s4, s5⟩
          go_simp
          with_reducible rfl
         rotate_left
         ·simp only [Act.put, List.setIfInBounds_toArray, List.set_cons_zero, List.set_cons_succ, i64_w, i32_w]
          rfl
         refine take_ (i := 12) (N := some 114) (v := ?_) (a' := ?_) (bm_ 20 7167) rfl rfl (take_ofW HT_.out HW_.out (by kernel_rfl)) (fun _ _ _ h => h) (Or.inl ⟨by rfl, ?_⟩) hHeld ?_ ?_
         rotate_left
         ·rintro w' ⟨s0, s1, s2, s3, s4, s5⟩
          go_simp
          with_reducible rfl
         rotate_left
         ·simp only [Act.put, List.setIfInBounds_toArray, List.set_cons_zero, List.set_cons_succ, i64_w, i32_w]
          rfl
         refine one_ (i := 10) (N := some 112) (bm_ 20 8191) rfl rfl (one_of HT_.out (by kernel_rfl)) (by decide) (fun K hK => ?_)
         refine goes_ Try.func12 (by kernel_rfl) rfl #[.agg #[.int .i64 t432, .int .i64 t433, .int .i64 t434], .agg #[.int .i64 t435, .int .i64 t436, .int .i64 t437]] (by rfl) rfl rfl am_ ?_
         with_reducible refine (warpwrightlaw25_meet.calls kj10 t432 t433 t434 t435 t436 t437 t466 t467 t468 t469 _ A94.out).mono ?_
         rintro e w115 ⟨rfl, hb⟩
         refine ⟨_, rfl, ?_⟩
         replace BK428 := Aside0.mk (bb_ BK428 hb)
         replace BK429 := Aside0.mk (bb_ BK429 hb)
         replace BK430 := Aside0.mk (bb_ BK430 hb)
         replace BK438 := Aside0.mk (bb_ BK438 hb)
         replace BK439 := Aside0.mk (bb_ BK439 hb)
         replace BK442 := Aside0.mk (bb_ BK442 hb)
         replace HB := Aside0.mk (below_step (bl_ HB) hb)
         (try clear hb)
         (try clear hb2)
         (try clear hk)
         (try clear hi)
         refine hK.out _ _ ⟨(blk_cell BK438.out 0).trans rfl, (blk_cell BK438.out 1).trans rfl, (blk_cell BK438.out 2).trans rfl, (blk_cell BK439.out 0).trans rfl, (blk_cell BK439.out 1).trans rfl, (blk_cell BK439.out 2).trans rfl⟩ (fun hHeld => ?_)
         clear hK K
         refine norm_ (a' := ?_) ?_ ?_
         rotate_left
         ·show Act.put _ (some 112) _ = _
          simp only [Act.put, List.setIfInBounds_toArray, List.set_cons_zero, List.set_cons_succ, i64_w, i32_w]
          rfl
         refine one_ (i := 13) (N := some 115) (bm_ 20 16383) rfl rfl (one_of HT_.out (by kernel_rfl)) (by decide) (fun K hK => ?_)
         refine goes_ Try.func12 (by kernel_rfl) rfl #[.agg #[.int .i64 t435, .int .i64 t436, .int .i64 t437], .agg #[.int .i64 t432, .int .i64 t433, .int .i64 t434]] (by rfl) rfl rfl am_ ?_
         with_reducible refine (warpwrightlaw25_meet.calls kj10 t435 t436 t437 t432 t433 t434 t470 t471 t472 t473 _ A95.out).mono ?_
         rintro e w116 ⟨rfl, hb⟩
         refine ⟨_, rfl, ?_⟩
         replace BK428 := Aside0.mk (bb_ BK428 hb)
         replace BK429 := Aside0.mk (bb_ BK429 hb)
         replace BK430 := Aside0.mk (bb_ BK430 hb)
         replace BK438 := Aside0.mk (bb_ BK438 hb)
         replace BK439 := Aside0.mk (bb_ BK439 hb)
         replace BK442 := Aside0.mk (bb_ BK442 hb)
         replace HB := Aside0.mk (below_step (bl_ HB) hb)
         (try clear hb)
         (try clear hb2)
         (try clear hk)
         (try clear hi)
         refine hK.out _ _ ⟨(blk_cell BK438.out 0).trans rfl, (blk_cell BK438.out 1).trans rfl, (blk_cell BK438.out 2).trans rfl, (blk_cell BK439.out 0).trans rfl, (blk_cell BK439.out 1).trans rfl, (blk_cell BK439.out 2).trans rfl⟩ (fun hHeld => ?_)
         clear hK K
         refine norm_ (a' := ?_) ?_ ?_
         rotate_left
         ·show Act.put _ (some 115) _ = _
          simp only [Act.put, List.setIfInBounds_toArray, List.set_cons_zero, List.set_cons_succ, i64_w, i32_w]
          rfl
         refine pure_ (i := 14) (N := some 116) (v := ?_) (a' := ?_) (bm_ 20 32767) rfl rfl (any_of HT_.out (by kernel_rfl)) (fun _ _ _ h => h) (Or.inl ⟨by rfl, ?_⟩) ?_ ?_
         rotate_left
         ·intro w'
          go_simp
          with_reducible rfl
         rotate_left
         ·simp only [Act.put, List.setIfInBounds_toArray, List.set_cons_zero, List.set_cons_succ, i64_w, i32_w]
          rfl
         refine pure_ (i := 15) (N := some 117) (v := ?_) (a' := ?_) (bm_ 20 65535) rfl rfl (any_of HT_.out (by kernel_rfl)) (fun _ _ _ h => h) (Or.inl ⟨by rfl, ?_⟩) ?_ ?_
         rotate_left
         ·intro w'
          go_simp
          with_reducible rfl
         rotate_left
         ·simp only [Act.put, List.setIfInBounds_toArray, List.set_cons_zero, List.set_cons_succ, i64_w, i32_w]
          rfl
         refine pure_ (i := 16) (N := some 118) (v := ?_) (a' := ?_) (bm_ 20 131071) rfl rfl (any_of HT_.out (by kernel_rfl)) (fun _ _ _ h => h) (Or.inl ⟨by rfl, ?_⟩) ?_ ?_
         rotate_left
         ·intro w'
          go_simp
          with_reducible rfl
         rotate_left
         ·simp only [Act.put, List.setIfInBounds_toArray, List.set_cons_zero, List.set_cons_succ, i64_w, i32_w]
          rfl
         refine pure_ (i := 17) (N := some 119) (v := ?_) (a' := ?_) (bm_ 20 262143) rfl rfl (any_of HT_.out (by kernel_rfl)) (fun _ _ _ h => h) (Or.inl ⟨by rfl, ?_⟩) ?_ ?_
         rotate_left
         ·intro w'
          go_simp
          with_reducible rfl
         rotate_left
         ·simp only [Act.put, List.setIfInBounds_toArray, List.set_cons_zero, List.set_cons_succ, i64_w, i32_w]
          rfl
         refine pure_ (i := 18) (N := some 120) (v := ?_) (a' := ?_) (bm_ 20 524287) rfl rfl (any_of HT_.out (by kernel_rfl)) (fun _ _ _ h => h) (Or.inl ⟨by rfl, ?_⟩) ?_ ?_
         rotate_left
         ·intro w'
          go_simp
          with_reducible rfl
         rotate_left
         ·simp only [Act.put, List.setIfInBounds_toArray, List.set_cons_zero, List.set_cons_succ, i64_w, i32_w]
          rfl
         refine pure_ (i := 19) (N := some 6) (v := ?_) (a' := ?_) (bm_ 20 1048575) rfl rfl (any_of HT_.out (by kernel_rfl)) (fun _ _ _ h => h) (Or.inl ⟨by rfl, ?_⟩) ?_ ?_
         rotate_left
         ·intro w'
          go_simp
          with_reducible rfl
         rotate_left
         ·simp only [Act.put, List.setIfInBounds_toArray, List.set_cons_zero, List.set_cons_succ, i64_w, i32_w]
          rfl
         refine done_ (done_of HT_.out (by kernel_rfl)) ?_
         try go_wp2
         go_ret
         exact ⟨by first | rfl | (simp [errW_none, errW_some] <;> rfl) | (simp [*, errW_none, errW_some] <;> rfl), by repeat (first | (with_reducible first | exact HB.out | apply below_alloc | apply pw_below_drewN | apply below_drew1 | refine below_set ?_ GE428.out | refine below_set ?_ GE429.out | refine below_set ?_ GE430.out | refine below_set ?_ GE438.out | refine below_set ?_ GE439.out | refine below_set ?_ GE442.out) | exact HB.out)⟩
        ·rw [if_neg c96] at H
         have c96b0 : ((t466 == t470 && (t467 == t471 && (t468 == t472))) && (t469 == t473)) = false := by first | (simp; done) | simpa using c96
         clear c96
         exact absurd H (by simp)
       ·rw [if_neg c93] at H
        have c93b0 : (t464 == t465) = false := by first | (simp; done) | simpa using c93
        (try (have c93b1 : decide (t464 = t465) = false := by first | (simp; done) | simpa using c93))
        (try (have c93b2 : (t464 == t465) = false := by first | (simp; done) | simpa using c93))
        (try (have c93b3 : ¬ (t464 = t465) := by first | (simp; done) | simpa using c93))
        clear c93
        exact absurd H (by simp)
      ·replace c90 := Bool.eq_false_iff.mpr c90
       subst c90
       have H1 : (none) = some r := by rw [if_neg (show ¬ (false = true) by decide)] at H; exact H
       clear H
       have H := H1
       clear H1
       exact absurd H (by simp)
     ·rw [if_neg c88] at H
      have c88b0 : (!(t455 == t459) || (!(t456 == t460) || (!(t457 == t461)))) = false := by first | (simp; done) | simpa using c88
      clear c88
      replace H := Option.bind_eq_some_iff.mp H
      obtain ⟨t474, A1170, H⟩ := H
      replace H : ((span_Apart.f kj10 t435 t436 t437 t432 t433 t434).bind fun t475 => (if (t474 == t475) = true then ((warpwrightlaw25_meet.f kj10 t432 t433 t434 t435 t436 t437).bind fun bt476 => ((warpwrightlaw25_meet.f kj10 t435 t436 t437 t432 t433 t434).bind fun bt480 => (if ((bt476.1 == bt480.1 && (bt476.2.1 == bt480.2.1 && (bt476.2.2.1 == bt480.2.2.1))) && (bt476.2.2.2 == bt480.2.2.2)) = true then (some true) else (none)))) else (none))) = some r := H
      have A117 := Aside0.mk A1170
      clear A1170
      replace H := Option.bind_eq_some_iff.mp H
      obtain ⟨t475, A1180, H⟩ := H
      replace H : (if (t474 == t475) = true then ((warpwrightlaw25_meet.f kj10 t432 t433 t434 t435 t436 t437).bind fun bt476 => ((warpwrightlaw25_meet.f kj10 t435 t436 t437 t432 t433 t434).bind fun bt480 => (if ((bt476.1 == bt480.1 && (bt476.2.1 == bt480.2.1 && (bt476.2.2.1 == bt480.2.2.1))) && (bt476.2.2.2 == bt480.2.2.2)) = true then (some true) else (none)))) else (none)) = some r := H
      have A118 := Aside0.mk A1180
      clear A1180
      by_cases c119 : (t474 == t475) = true
      ·rw [if_pos c119] at H
       have c119b0 : (t474 == t475) = true := c119
       (try (have c119b1 : decide (t474 = t475) = true := by first | (simp; done) | simpa using c119))
       (try (have c119b2 : (t474 == t475) = true := by first | (simp; done) | simpa using c119))
       clear c119
       replace H := Option.bind_eq_some_iff.mp H
       obtain ⟨⟨t476, t477, t478, t479⟩, A1200, H⟩ := H
       replace H : ((warpwrightlaw25_meet.f kj10 t435 t436 t437 t432 t433 t434).bind fun bt480 => (if ((t476 == bt480.1 && (t477 == bt480.2.1 && (t478 == bt480.2.2.1))) && (t479 == bt480.2.2.2)) = true then (some true) else (none))) = some r := H
       have A120 := Aside0.mk A1200
       clear A1200
       replace H := Option.bind_eq_some_iff.mp H
       obtain ⟨⟨t480, t481, t482, t483⟩, A1210, H⟩ := H
       replace H : (if ((t476 == t480 && (t477 == t481 && (t478 == t482))) && (t479 == t483)) = true then (some true) else (none)) = some r := H
       have A121 := Aside0.mk A1210
       clear A1210
       by_cases c122 : ((t476 == t480 && (t477 == t481 && (t478 == t482))) && (t479 == t483)) = true
       ·rw [if_pos c122] at H
        have c122b0 : ((t476 == t480 && (t477 == t481 && (t478 == t482))) && (t479 == t483)) = true := c122
        clear c122
        obtain rfl := Option.some.inj H
        have hnb123 := NB438_428.out
        have hnc123 := NB428_438.out
        have hnb124 := NB438_429.out
        have hnc124 := NB429_438.out
        have hnb125 := NB438_430.out
        have hnc125 := NB430_438.out
        have hnb126 := NB438_439.out
        have hnc126 := NB439_438.out
        have hnb127 := NB438_442.out
        have hnc127 := NB442_438.out
        have hcz128_0 : wc.cell? ⟨gb438, 0, none⟩ = some (.int .i64 t432) := (blk_cell BK438.out 0).trans rfl
        have hcz128_1 : wc.cell? ⟨gb438, 1, none⟩ = some (.int .i64 t433) := (blk_cell BK438.out 1).trans rfl
        have hcz128_2 : wc.cell? ⟨gb438, 2, none⟩ = some (.int .i64 t434) := (blk_cell BK438.out 2).trans rfl
        have hfz128_0 := blk_frozen BK438.out 0
        have hfz128_1 := blk_frozen BK438.out 1
        have hfz128_2 := blk_frozen BK438.out 2
        have hnb129 := NB439_428.out
        have hnc129 := NB428_439.out
        have hnb130 := NB439_429.out
        have hnc130 := NB429_439.out
        have hnb131 := NB439_430.out
        have hnc131 := NB430_439.out
        have hnb132 := NB439_442.out
        have hnc132 := NB442_439.out
        have hcz133_0 : wc.cell? ⟨gb439, 0, none⟩ = some (.int .i64 t435) := (blk_cell BK439.out 0).trans rfl
        have hcz133_1 : wc.cell? ⟨gb439, 1, none⟩ = some (.int .i64 t436) := (blk_cell BK439.out 1).trans rfl
        have hcz133_2 : wc.cell? ⟨gb439, 2, none⟩ = some (.int .i64 t437) := (blk_cell BK439.out 2).trans rfl
        have hfz133_0 := blk_frozen BK439.out 0
        have hfz133_1 := blk_frozen BK439.out 1
        have hfz133_2 := blk_frozen BK439.out 2
        try go_wp2_with (first | ((with_reducible refine gate_callee (f := 21) rfl ?_); refine goesL_ (some 82) rfl rfl Try.func21 (by kernel_rfl) rfl #[.int .i64 t434, .int .i64 t437] rfl am_ ?_; (with_reducible refine (warpwrightref25_Gcd.calls kj10 t434 t437 t454 _ A84.out).mono ?_); rintro e w' ⟨rfl, ⟨nd, rfl⟩⟩; refine ⟨_, rfl, ?_⟩))
        (try (rw [drewN_self wc]; generalize hq_ : World.drewN wc _ = wc; replace BK428 : Aside0 (wc.heap[gb428]? = some (.cells #[.int .i64 a0_0, .int .u32 a0_1, .int .u16 a0_2] 25 (0, 0))) := ⟨by rw [← hq_]; exact (bk_ BK428)⟩; replace BK429 : Aside0 (wc.heap[gb429]? = some (.cells #[.int .i64 a1_0, .int .u32 a1_1, .int .u16 a1_2] 25 (0, 0))) := ⟨by rw [← hq_]; exact (bk_ BK429)⟩; replace BK430 : Aside0 (wc.heap[gb430]? = some (.cells #[.int .u16 a2_0, .int .u16 a2_1] 38 (0, 0))) := ⟨by rw [← hq_]; exact (bk_ BK430)⟩; replace BK438 : Aside0 (wc.heap[gb438]? = some (.cells #[.int .i64 t432, .int .i64 t433, .int .i64 t434] 28 (0, 0))) := ⟨by rw [← hq_]; exact (bk_ BK438)⟩; replace BK439 : Aside0 (wc.heap[gb439]? = some (.cells #[.int .i64 t435, .int .i64 t436, .int .i64 t437] 28 (0, 0))) := ⟨by rw [← hq_]; exact (bk_ BK439)⟩; replace BK442 : Aside0 (wc.heap[gb442]? = some (.cells #[.int .i64 (wrap64 (t435 + (wrap64 (t440 - t441)))), .int .i64 (wrap64 (t436 + (wrap64 (t440 - t441)))), .int .i64 t437] 28 (0, 0))) := ⟨by rw [← hq_]; exact (bk_ BK442)⟩; replace HB : Aside0 (Below w.heap.size w wc) := ⟨by rw [← hq_]; exact (bl_ HB)⟩; clear hq_))
        replace BK428 := Aside0.mk (blk_drew BK428.out)
        replace BK429 := Aside0.mk (blk_drew BK429.out)
        replace BK430 := Aside0.mk (blk_drew BK430.out)
        replace BK438 := Aside0.mk (blk_drew BK438.out)
        replace BK439 := Aside0.mk (blk_drew BK439.out)
        replace BK442 := Aside0.mk (blk_drew BK442.out)
        replace HB := Aside0.mk (below_drew1 HB.out)
        refine start_ (n := 19) (S := fun w' => w'.cell? ⟨gb438, 0, none⟩ = some (.int .i64 t432) ∧ w'.cell? ⟨gb438, 1, none⟩ = some (.int .i64 t433) ∧ w'.cell? ⟨gb438, 2, none⟩ = some (.int .i64 t434) ∧ w'.cell? ⟨gb439, 0, none⟩ = some (.int .i64 t435) ∧ w'.cell? ⟨gb439, 1, none⟩ = some (.int .i64 t436) ∧ w'.cell? ⟨gb439, 2, none⟩ = some (.int .i64 t437)) (ds := []) #[false, false, false, false, false, false, false, false, false, false, false, false, false, false, false, false, false, false, false] (by kernel_rfl) rfl rfl ⟨(blk_cell BK438.out 0).trans rfl, (blk_cell BK438.out 1).trans rfl, (blk_cell BK438.out 2).trans rfl, (blk_cell BK439.out 0).trans rfl, (blk_cell BK439.out 1).trans rfl, (blk_cell BK439.out 2).trans rfl⟩ (fun hHeld => ?_); refine with_tabW warpwrightlaw25_SpanGreat.tab12 warpwrightlaw25_SpanGreat.bits12 (fun HT_ HW_ => ?_)
        generalize wc.drew = w134 at BK428 BK429 BK430 BK438 BK439 BK442 HB hHeld ⊢
        refine pure_ (i := 0) (N := some 83) (v := ?_) (a' := ?_) (bm_ 19 1) rfl rfl (any_of HT_.out (by kernel_rfl)) (fun _ _ _ h => h) (Or.inl ⟨by rfl, ?_⟩) ?_ ?_
        rotate_left
        ·intro w'
         go_simp
         with_reducible rfl
        rotate_left
        ·simp only [Act.put, List.setIfInBounds_toArray, List.set_cons_zero, List.set_cons_succ, i64_w, i32_w]
         rfl
        refine pure_ (i := 1) (N := some 84) (v := ?_) (a' := ?_) (bm_ 19 3) rfl rfl (any_of HT_.out (by kernel_rfl)) (fun _ _ _ h => h) (Or.inl ⟨by rfl, ?_⟩) ?_ ?_
        rotate_left
        ·intro w'
         go_simp
         with_reducible rfl
        rotate_left
        ·simp only [Act.put, List.setIfInBounds_toArray, List.set_cons_zero, List.set_cons_succ, i64_w, i32_w]
         rfl
        refine pure_ (i := 2) (N := some 85) (v := ?_) (a' := ?_) (bm_ 19 7) rfl rfl (any_of HT_.out (by kernel_rfl)) (fun _ _ _ h => h) (Or.inl ⟨by rfl, ?_⟩) ?_ ?_
        rotate_left
        ·intro w'
         go_simp
         with_reducible rfl
        rotate_left
        ·simp only [Act.put, List.setIfInBounds_toArray, List.set_cons_zero, List.set_cons_succ, i64_w, i32_w]
         rfl
        refine pure_ (i := 4) (N := some 87) (v := ?_) (a' := ?_) (bm_ 19 23) rfl rfl (any_of HT_.out (by kernel_rfl)) (fun _ _ _ h => h) (Or.inl ⟨by rfl, ?_⟩) ?_ ?_
        rotate_left
        ·intro w'
         go_simp
         with_reducible rfl
        rotate_left
        ·simp only [Act.put, List.setIfInBounds_toArray, List.set_cons_zero, List.set_cons_succ, i64_w, i32_w]
         rfl
        refine pure_ (i := 8) (N := some 91) (v := ?_) (a' := ?_) (bm_ 19 279) rfl rfl (any_of HT_.out (by kernel_rfl)) (fun _ _ _ h => h) (Or.inl ⟨by rfl, ?_⟩) ?_ ?_
        rotate_left
        ·intro w'
         go_simp
         with_reducible rfl
        rotate_left
        ·simp only [Act.put, List.setIfInBounds_toArray, List.set_cons_zero, List.set_cons_succ, i64_w, i32_w]
         rfl
        refine take_ (i := 3) (N := some 86) (v := ?_) (a' := ?_) (bm_ 19 287) rfl rfl (take_ofW HT_.out HW_.out (by kernel_rfl)) (fun _ _ _ h => h) (Or.inl ⟨by rfl, ?_⟩) hHeld ?_ ?_
        rotate_left
        ·rintro w' ⟨s0, s1, s2, s3, s4, s5⟩
         go_simp
         with_reducible rfl
        rotate_left
        ·simp only [Act.put, List.setIfInBounds_toArray, List.set_cons_zero, List.set_cons_succ, i64_w, i32_w]
         rfl
        refine take_ (i := 7) (N := some 90) (v := ?_) (a' := ?_) (bm_ 19 415) rfl rfl (take_ofW HT_.out HW_.out (by kernel_rfl)) (fun _ _ _ h => h) (Or.inl ⟨by rfl, ?_⟩) hHeld ?_ ?_
        rotate_left
        ·rintro w' ⟨s0, s1, s2, s3, s4, s5⟩
         go_simp
         with_reducible rfl
        rotate_left
        ·simp only [Act.put, List.setIfInBounds_toArray, List.set_cons_zero, List.set_cons_succ, i64_w, i32_w]
         rfl
        refine one_ (i := 5) (N := some 88) (bm_ 19 447) rfl rfl (one_of HT_.out (by kernel_rfl)) (by decide) (fun K hK => ?_)
        refine goes_ Try.func22 (by kernel_rfl) rfl #[.agg #[.int .i64 t432, .int .i64 t433, .int .i64 t434], .int .i64 t454] (by rfl) rfl rfl am_ ?_
        with_reducible refine (warpwrightlaw25_mod.calls kj10 t432 t433 t434 t454 t455 t456 t457 t458 _ A86.out).mono ?_
        rintro e w135 ⟨rfl, hb⟩
        refine ⟨_, rfl, ?_⟩
        replace BK428 := Aside0.mk (bb_ BK428 hb)
        replace BK429 := Aside0.mk (bb_ BK429 hb)
        replace BK430 := Aside0.mk (bb_ BK430 hb)
        replace BK438 := Aside0.mk (bb_ BK438 hb)
        replace BK439 := Aside0.mk (bb_ BK439 hb)
        replace BK442 := Aside0.mk (bb_ BK442 hb)
        replace HB := Aside0.mk (below_step (bl_ HB) hb)
        (try clear hb)
        (try clear hb2)
        (try clear hk)
        (try clear hi)
        refine hK.out _ _ ⟨(blk_cell BK438.out 0).trans rfl, (blk_cell BK438.out 1).trans rfl, (blk_cell BK438.out 2).trans rfl, (blk_cell BK439.out 0).trans rfl, (blk_cell BK439.out 1).trans rfl, (blk_cell BK439.out 2).trans rfl⟩ (fun hHeld => ?_)
        clear hK K
        refine norm_ (a' := ?_) ?_ ?_
        rotate_left
        ·show Act.put _ (some 88) _ = _
         simp only [Act.put, List.setIfInBounds_toArray, List.set_cons_zero, List.set_cons_succ, i64_w, i32_w]
         rfl
        refine pure_ (i := 6) (N := some 89) (v := ?_) (a' := ?_) (bm_ 19 511) rfl rfl (any_of HT_.out (by kernel_rfl)) (fun _ _ _ h => h) (Or.inl ⟨by rfl, ?_⟩) ?_ ?_
        rotate_left
        ·intro w'
         go_simp
         with_reducible rfl
        rotate_left
        ·simp only [Act.put, List.setIfInBounds_toArray, List.set_cons_zero, List.set_cons_succ, i64_w, i32_w]
         rfl
        refine one_ (i := 9) (N := some 92) (bm_ 19 1023) rfl rfl (one_of HT_.out (by kernel_rfl)) (by decide) (fun K hK => ?_)
        refine goes_ Try.func22 (by kernel_rfl) rfl #[.agg #[.int .i64 t435, .int .i64 t436, .int .i64 t437], .int .i64 t454] (by rfl) rfl rfl am_ ?_
        with_reducible refine (warpwrightlaw25_mod.calls kj10 t435 t436 t437 t454 t459 t460 t461 t462 _ A87.out).mono ?_
        rintro e w136 ⟨rfl, hb⟩
        refine ⟨_, rfl, ?_⟩
        replace BK428 := Aside0.mk (bb_ BK428 hb)
        replace BK429 := Aside0.mk (bb_ BK429 hb)
        replace BK430 := Aside0.mk (bb_ BK430 hb)
        replace BK438 := Aside0.mk (bb_ BK438 hb)
        replace BK439 := Aside0.mk (bb_ BK439 hb)
        replace BK442 := Aside0.mk (bb_ BK442 hb)
        replace HB := Aside0.mk (below_step (bl_ HB) hb)
        (try clear hb)
        (try clear hb2)
        (try clear hk)
        (try clear hi)
        refine hK.out _ _ ⟨(blk_cell BK438.out 0).trans rfl, (blk_cell BK438.out 1).trans rfl, (blk_cell BK438.out 2).trans rfl, (blk_cell BK439.out 0).trans rfl, (blk_cell BK439.out 1).trans rfl, (blk_cell BK439.out 2).trans rfl⟩ (fun hHeld => ?_)
        clear hK K
        refine norm_ (a' := ?_) ?_ ?_
        rotate_left
        ·show Act.put _ (some 92) _ = _
         simp only [Act.put, List.setIfInBounds_toArray, List.set_cons_zero, List.set_cons_succ, i64_w, i32_w]
         rfl
        refine pure_ (i := 10) (N := some 93) (v := ?_) (a' := ?_) (bm_ 19 2047) rfl rfl (any_of HT_.out (by kernel_rfl)) (fun _ _ _ h => h) (Or.inl ⟨by rfl, ?_⟩) ?_ ?_
        rotate_left
        ·intro w'
         go_simp
         with_reducible rfl
        rotate_left
        ·simp only [Act.put, List.setIfInBounds_toArray, List.set_cons_zero, List.set_cons_succ, i64_w, i32_w]
         rfl
        refine pure_ (i := 11) (N := some 94) (v := ?_) (a' := ?_) (bm_ 19 4095) rfl rfl (any_of HT_.out (by kernel_rfl)) (fun _ _ _ h => h) (Or.inl ⟨by rfl, ?_⟩) ?_ ?_
        rotate_left
        ·intro w'
         go_simp
         with_reducible rfl
        rotate_left
        ·simp only [Act.put, List.setIfInBounds_toArray, List.set_cons_zero, List.set_cons_succ, i64_w, i32_w]
         rfl
        refine pure_ (i := 12) (N := some 95) (v := ?_) (a' := ?_) (bm_ 19 8191) rfl rfl (any_of HT_.out (by kernel_rfl)) (fun _ _ _ h => h) (Or.inl ⟨by rfl, ?_⟩) ?_ ?_
        rotate_left
        ·intro w'
         go_simp
         with_reducible rfl
        rotate_left
        ·simp only [Act.put, List.setIfInBounds_toArray, List.set_cons_zero, List.set_cons_succ, i64_w, i32_w]
         rfl
        refine pure_ (i := 13) (N := some 96) (v := ?_) (a' := ?_) (bm_ 19 16383) rfl rfl (any_of HT_.out (by kernel_rfl)) (fun _ _ _ h => h) (Or.inl ⟨by rfl, ?_⟩) ?_ ?_
        rotate_left
        ·intro w'
         go_simp
         with_reducible rfl
        rotate_left
        ·simp only [Act.put, List.setIfInBounds_toArray, List.set_cons_zero, List.set_cons_succ, i64_w, i32_w]
         rfl
        refine pure_ (i := 14) (N := some 97) (v := undef) (a' := ?_) (bm_ 19 32767) rfl rfl (any_of HT_.out (by kernel_rfl)) (fun _ _ _ h => h) (Or.inr ⟨by rfl, rfl⟩) ?_ ?_
        rotate_left
        ·simp only [Act.put, List.setIfInBounds_toArray, List.set_cons_zero, List.set_cons_succ, i64_w, i32_w]
         rfl
        refine pure_ (i := 15) (N := some 98) (v := undef) (a' := ?_) (bm_ 19 65535) rfl rfl (any_of HT_.out (by kernel_rfl)) (fun _ _ _ h => h) (Or.inr ⟨by rfl, rfl⟩) ?_ ?_
        rotate_left
        ·simp only [Act.put, List.setIfInBounds_toArray, List.set_cons_zero, List.set_cons_succ, i64_w, i32_w]
         rfl
        refine pure_ (i := 16) (N := some 99) (v := undef) (a' := ?_) (bm_ 19 131071) rfl rfl (any_of HT_.out (by kernel_rfl)) (fun _ _ _ h => h) (Or.inr ⟨by rfl, rfl⟩) ?_ ?_
        rotate_left
        ·simp only [Act.put, List.setIfInBounds_toArray, List.set_cons_zero, List.set_cons_succ, i64_w, i32_w]
         rfl
        refine pure_ (i := 17) (N := some 100) (v := undef) (a' := ?_) (bm_ 19 262143) rfl rfl (any_of HT_.out (by kernel_rfl)) (fun _ _ _ h => h) (Or.inr ⟨by rfl, rfl⟩) ?_ ?_
        rotate_left
        ·simp only [Act.put, List.setIfInBounds_toArray, List.set_cons_zero, List.set_cons_succ, i64_w, i32_w]
         rfl
        refine pure_ (i := 18) (N := some 101) (v := ?_) (a' := ?_) (bm_ 19 524287) rfl rfl (any_of HT_.out (by kernel_rfl)) (fun _ _ _ h => h) (Or.inl ⟨by rfl, ?_⟩) ?_ ?_
        rotate_left
        ·intro w'
         go_simp
         with_reducible rfl
        rotate_left
        ·simp only [Act.put, List.setIfInBounds_toArray, List.set_cons_zero, List.set_cons_succ, i64_w, i32_w]
         rfl
        refine done_ (done_of HT_.out (by kernel_rfl)) ?_
        try go_wp2
        replace BK428 := Aside0.mk (blk_drew BK428.out)
        replace BK429 := Aside0.mk (blk_drew BK429.out)
        replace BK430 := Aside0.mk (blk_drew BK430.out)
        replace BK438 := Aside0.mk (blk_drew BK438.out)
        replace BK439 := Aside0.mk (blk_drew BK439.out)
        replace BK442 := Aside0.mk (blk_drew BK442.out)
        replace HB := Aside0.mk (below_drew1 HB.out)
        refine start_ (n := 20) (S := fun w' => w'.cell? ⟨gb438, 0, none⟩ = some (.int .i64 t432) ∧ w'.cell? ⟨gb438, 1, none⟩ = some (.int .i64 t433) ∧ w'.cell? ⟨gb438, 2, none⟩ = some (.int .i64 t434) ∧ w'.cell? ⟨gb439, 0, none⟩ = some (.int .i64 t435) ∧ w'.cell? ⟨gb439, 1, none⟩ = some (.int .i64 t436) ∧ w'.cell? ⟨gb439, 2, none⟩ = some (.int .i64 t437)) (ds := []) #[false, false, false, false, false, false, false, false, false, false, false, false, false, false, false, false, false, false, false, false] (by kernel_rfl) rfl rfl ⟨(blk_cell BK438.out 0).trans rfl, (blk_cell BK438.out 1).trans rfl, (blk_cell BK438.out 2).trans rfl, (blk_cell BK439.out 0).trans rfl, (blk_cell BK439.out 1).trans rfl, (blk_cell BK439.out 2).trans rfl⟩ (fun hHeld => ?_); refine with_tabW warpwrightlaw25_SpanGreat.tab14 warpwrightlaw25_SpanGreat.bits14 (fun HT_ HW_ => ?_)
        generalize w136.drew = w137 at BK428 BK429 BK430 BK438 BK439 BK442 HB hHeld ⊢
        refine take_ (i := 0) (N := some 102) (v := ?_) (a' := ?_) (bm_ 20 1) rfl rfl (take_ofW HT_.out HW_.out (by kernel_rfl)) (fun _ _ _ h => h) (Or.inl ⟨by rfl, ?_⟩) hHeld ?_ ?_
        rotate_left
        ·rintro w' ⟨s0, s1, s2, s3, s4, s5⟩
         go_simp
         with_reducible rfl
        rotate_left
        ·simp only [Act.put, List.setIfInBounds_toArray, List.set_cons_zero, List.set_cons_succ, i64_w, i32_w]
         rfl
        refine take_ (i := 1) (N := some 103) (v := ?_) (a' := ?_) (bm_ 20 3) rfl rfl (take_ofW HT_.out HW_.out (by kernel_rfl)) (fun _ _ _ h => h) (Or.inl ⟨by rfl, ?_⟩) hHeld ?_ ?_
        rotate_left
        ·rintro w' ⟨s0, s1, s2, s3, s4, s5⟩
         go_simp
         with_reducible rfl
        rotate_left
        ·simp only [Act.put, List.setIfInBounds_toArray, List.set_cons_zero, List.set_cons_succ, i64_w, i32_w]
         rfl
        refine take_ (i := 3) (N := some 105) (v := ?_) (a' := ?_) (bm_ 20 11) rfl rfl (take_ofW HT_.out HW_.out (by kernel_rfl)) (fun _ _ _ h => h) (Or.inl ⟨by rfl, ?_⟩) hHeld ?_ ?_
        rotate_left
        ·rintro w' ⟨s0, s1, s2, s3, s4, s5⟩
         go_simp
         with_reducible rfl
        rotate_left
        ·simp only [Act.put, List.setIfInBounds_toArray, List.set_cons_zero, List.set_cons_succ, i64_w, i32_w]
         rfl
        refine take_ (i := 4) (N := some 106) (v := ?_) (a' := ?_) (bm_ 20 27) rfl rfl (take_ofW HT_.out HW_.out (by kernel_rfl)) (fun _ _ _ h => h) (Or.inl ⟨by rfl, ?_⟩) hHeld ?_ ?_
        rotate_left
        ·rintro w' ⟨s0, s1, s2, s3, s4, s5⟩
         go_simp
         with_reducible rfl
        rotate_left
        ·simp only [Act.put, List.setIfInBounds_toArray, List.set_cons_zero, List.set_cons_succ, i64_w, i32_w]
         rfl
        refine one_ (i := 2) (N := some 104) (bm_ 20 31) rfl rfl (one_of HT_.out (by kernel_rfl)) (by decide) (fun K hK => ?_)
        refine goes_ Try.func14 (by kernel_rfl) rfl #[.agg #[.int .i64 t432, .int .i64 t433, .int .i64 t434], .agg #[.int .i64 t435, .int .i64 t436, .int .i64 t437]] (by rfl) rfl rfl am_ ?_
        with_reducible refine (span_Apart.calls kj10 t432 t433 t434 t435 t436 t437 t474 _ A117.out).mono ?_
        rintro e w138 ⟨rfl, hb⟩
        refine ⟨_, rfl, ?_⟩
        replace BK428 := Aside0.mk (bb_ BK428 hb)
        replace BK429 := Aside0.mk (bb_ BK429 hb)
        replace BK430 := Aside0.mk (bb_ BK430 hb)
        replace BK438 := Aside0.mk (bb_ BK438 hb)
        replace BK439 := Aside0.mk (bb_ BK439 hb)
        replace BK442 := Aside0.mk (bb_ BK442 hb)
        replace HB := Aside0.mk (below_step (bl_ HB) hb)
        (try clear hb)
        (try clear hb2)
        (try clear hk)
        (try clear hi)
        refine hK.out _ _ ⟨(blk_cell BK438.out 0).trans rfl, (blk_cell BK438.out 1).trans rfl, (blk_cell BK438.out 2).trans rfl, (blk_cell BK439.out 0).trans rfl, (blk_cell BK439.out 1).trans rfl, (blk_cell BK439.out 2).trans rfl⟩ (fun hHeld => ?_)
        clear hK K
        refine norm_ (a' := ?_) ?_ ?_
        rotate_left
        ·show Act.put _ (some 104) _ = _
         simp only [Act.put, List.setIfInBounds_toArray, List.set_cons_zero, List.set_cons_succ, i64_w, i32_w]
         rfl
        refine one_ (i := 5) (N := some 107) (bm_ 20 63) rfl rfl (one_of HT_.out (by kernel_rfl)) (by decide) (fun K hK => ?_)
        refine goes_ Try.func14 (by kernel_rfl) rfl #[.agg #[.int .i64 t435, .int .i64 t436, .int .i64 t437], .agg #[.int .i64 t432, .int .i64 t433, .int .i64 t434]] (by rfl) rfl rfl am_ ?_
        with_reducible refine (span_Apart.calls kj10 t435 t436 t437 t432 t433 t434 t475 _ A118.out).mono ?_
        rintro e w139 ⟨rfl, hb⟩
        refine ⟨_, rfl, ?_⟩
        replace BK428 := Aside0.mk (bb_ BK428 hb)
        replace BK429 := Aside0.mk (bb_ BK429 hb)
        replace BK430 := Aside0.mk (bb_ BK430 hb)
        replace BK438 := Aside0.mk (bb_ BK438 hb)
        replace BK439 := Aside0.mk (bb_ BK439 hb)
        replace BK442 := Aside0.mk (bb_ BK442 hb)
        replace HB := Aside0.mk (below_step (bl_ HB) hb)
        (try clear hb)
        (try clear hb2)
        (try clear hk)
        (try clear hi)
        refine hK.out _ _ ⟨(blk_cell BK438.out 0).trans rfl, (blk_cell BK438.out 1).trans rfl, (blk_cell BK438.out 2).trans rfl, (blk_cell BK439.out 0).trans rfl, (blk_cell BK439.out 1).trans rfl, (blk_cell BK439.out 2).trans rfl⟩ (fun hHeld => ?_)
        clear hK K
        refine norm_ (a' := ?_) ?_ ?_
        rotate_left
        ·show Act.put _ (some 107) _ = _
         simp only [Act.put, List.setIfInBounds_toArray, List.set_cons_zero, List.set_cons_succ, i64_w, i32_w]
         rfl
        refine pure_ (i := 6) (N := some 108) (v := ?_) (a' := ?_) (bm_ 20 127) rfl rfl (any_of HT_.out (by kernel_rfl)) (fun _ _ _ h => h) (Or.inl ⟨by rfl, ?_⟩) ?_ ?_
        rotate_left
        ·intro w'
         go_simp
         with_reducible rfl
        rotate_left
        ·simp only [Act.put, List.setIfInBounds_toArray, List.set_cons_zero, List.set_cons_succ, i64_w, i32_w]
         rfl
        refine pure_ (i := 7) (N := some 109) (v := ?_) (a' := ?_) (bm_ 20 255) rfl rfl (any_of HT_.out (by kernel_rfl)) (fun _ _ _ h => h) (Or.inl ⟨by rfl, ?_⟩) ?_ ?_
        rotate_left
        ·intro w'
         go_simp
         with_reducible rfl
        rotate_left
        ·simp only [Act.put, List.setIfInBounds_toArray, List.set_cons_zero, List.set_cons_succ, i64_w, i32_w]
         rfl
        refine take_ (i := 8) (N := some 110) (v := ?_) (a' := ?_) (bm_ 20 511) rfl rfl (take_ofW HT_.out HW_.out (by kernel_rfl)) (fun _ _ _ h => h) (Or.inl ⟨by rfl, ?_⟩) hHeld ?_ ?_
        rotate_left
        ·rintro w' ⟨s0, s1, s2, s3, s4, s5⟩
         go_simp
         with_reducible rfl
        rotate_left
        ·simp only [Act.put, List.setIfInBounds_toArray, List.set_cons_zero, List.set_cons_succ, i64_w, i32_w]
         rfl
        refine take_ (i := 9) (N := some 111) (v := ?_) (a' := ?_) (bm_ 20 1023) rfl rfl (take_ofW HT_.out HW_.out (by kernel_rfl)) (fun _ _ _ h => h) (Or.inl ⟨by rfl, ?_⟩) hHeld ?_ ?_
        rotate_left
        ·rintro w' ⟨s0, s1, s2, s3, s4, s5⟩
         go_simp
         with_reducible rfl
        rotate_left
        ·simp only [Act.put, List.setIfInBounds_toArray, List.set_cons_zero, List.set_cons_succ, i64_w, i32_w]
         rfl
        refine take_ (i := 11) (N := some 113) (v := ?_) (a' := ?_) (bm_ 20 3071) rfl rfl (take_ofW HT_.out HW_.out (by kernel_rfl)) (fun _ _ _ h => h) (Or.inl ⟨by rfl, ?_⟩) hHeld ?_ ?_
        rotate_left
        ·rintro w' ⟨s0, s1, s2, s3, s4, s5⟩
         go_simp
         with_reducible rfl
        rotate_left
        ·simp only [Act.put, List.setIfInBounds_toArray, List.set_cons_zero, List.set_cons_succ, i64_w, i32_w]
         rfl
        refine take_ (i := 12) (N := some 114) (v := ?_) (a' := ?_) (bm_ 20 7167) rfl rfl (take_ofW HT_.out HW_.out (by kernel_rfl)) (fun _ _ _ h => h) (Or.inl ⟨by rfl, ?_⟩) hHeld ?_ ?_
        rotate_left
        ·rintro w' ⟨s0, s1, s2, s3, s4, s5⟩
         go_simp
         with_reducible rfl
        rotate_left
        ·simp only [Act.put, List.setIfInBounds_toArray, List.set_cons_zero, List.set_cons_succ, i64_w, i32_w]
         rfl
        refine one_ (i := 10) (N := some 112) (bm_ 20 8191) rfl rfl (one_of HT_.out (by kernel_rfl)) (by decide) (fun K hK => ?_)
        refine goes_ Try.func12 (by kernel_rfl) rfl #[.agg #[.int .i64 t432, .int .i64 t433, .int .i64 t434], .agg #[.int .i64 t435, .int .i64 t436, .int .i64 t437]] (by rfl) rfl rfl am_ ?_
        with_reducible refine (warpwrightlaw25_meet.calls kj10 t432 t433 t434 t435 t436 t437 t476 t477 t478 t479 _ A120.out).mono ?_
        rintro e w140 ⟨rfl, hb⟩
        refine ⟨_, rfl, ?_⟩
        replace BK428 := Aside0.mk (bb_ BK428 hb)
        replace BK429 := Aside0.mk (bb_ BK429 hb)
        replace BK430 := Aside0.mk (bb_ BK430 hb)
        replace BK438 := Aside0.mk (bb_ BK438 hb)
        replace BK439 := Aside0.mk (bb_ BK439 hb)
        replace BK442 := Aside0.mk (bb_ BK442 hb)
        replace HB := Aside0.mk (below_step (bl_ HB) hb)
        (try clear hb)
        (try clear hb2)
        (try clear hk)
        (try clear hi)
        refine hK.out _ _ ⟨(blk_cell BK438.out 0).trans rfl, (blk_cell BK438.out 1).trans rfl, (blk_cell BK438.out 2).trans rfl, (blk_cell BK439.out 0).trans rfl, (blk_cell BK439.out 1).trans rfl, (blk_cell BK439.out 2).trans rfl⟩ (fun hHeld => ?_)
        clear hK K
        refine norm_ (a' := ?_) ?_ ?_
        rotate_left
        ·show Act.put _ (some 112) _ = _
         simp only [Act.put, List.setIfInBounds_toArray, List.set_cons_zero, List.set_cons_succ, i64_w, i32_w]
         rfl
        refine one_ (i := 13) (N := some 115) (bm_ 20 16383) rfl rfl (one_of HT_.out (by kernel_rfl)) (by decide) (fun K hK => ?_)
        refine goes_ Try.func12 (by kernel_rfl) rfl #[.agg #[.int .i64 t435, .int .i64 t436, .int .i64 t437], .agg #[.int .i64 t432, .int .i64 t433, .int .i64 t434]] (by rfl) rfl rfl am_ ?_
        with_reducible refine (warpwrightlaw25_meet.calls kj10 t435 t436 t437 t432 t433 t434 t480 t481 t482 t483 _ A121.out).mono ?_
        rintro e w141 ⟨rfl, hb⟩
        refine ⟨_, rfl, ?_⟩
        replace BK428 := Aside0.mk (bb_ BK428 hb)
        replace BK429 := Aside0.mk (bb_ BK429 hb)
        replace BK430 := Aside0.mk (bb_ BK430 hb)
        replace BK438 := Aside0.mk (bb_ BK438 hb)
        replace BK439 := Aside0.mk (bb_ BK439 hb)
        replace BK442 := Aside0.mk (bb_ BK442 hb)
        replace HB := Aside0.mk (below_step (bl_ HB) hb)
        (try clear hb)
        (try clear hb2)
        (try clear hk)
        (try clear hi)
        refine hK.out _ _ ⟨(blk_cell BK438.out 0).trans rfl, (blk_cell BK438.out 1).trans rfl, (blk_cell BK438.out 2).trans rfl, (blk_cell BK439.out 0).trans rfl, (blk_cell BK439.out 1).trans rfl, (blk_cell BK439.out 2).trans rfl⟩ (fun hHeld => ?_)
        clear hK K
        refine norm_ (a' := ?_) ?_ ?_
        rotate_left
        ·show Act.put _ (some 115) _ = _
         simp only [Act.put, List.setIfInBounds_toArray, List.set_cons_zero, List.set_cons_succ, i64_w, i32_w]
         rfl
        refine pure_ (i := 14) (N := some 116) (v := ?_) (a' := ?_) (bm_ 20 32767) rfl rfl (any_of HT_.out (by kernel_rfl)) (fun _ _ _ h => h) (Or.inl ⟨by rfl, ?_⟩) ?_ ?_
        rotate_left
        ·intro w'
         go_simp
         with_reducible rfl
        rotate_left
        ·simp only [Act.put, List.setIfInBounds_toArray, List.set_cons_zero, List.set_cons_succ, i64_w, i32_w]
         rfl
        refine pure_ (i := 15) (N := some 117) (v := ?_) (a' := ?_) (bm_ 20 65535) rfl rfl (any_of HT_.out (by kernel_rfl)) (fun _ _ _ h => h) (Or.inl ⟨by rfl, ?_⟩) ?_ ?_
        rotate_left
        ·intro w'
         go_simp
         with_reducible rfl
        rotate_left
        ·simp only [Act.put, List.setIfInBounds_toArray, List.set_cons_zero, List.set_cons_succ, i64_w, i32_w]
         rfl
        refine pure_ (i := 16) (N := some 118) (v := ?_) (a' := ?_) (bm_ 20 131071) rfl rfl (any_of HT_.out (by kernel_rfl)) (fun _ _ _ h => h) (Or.inl ⟨by rfl, ?_⟩) ?_ ?_
        rotate_left
        ·intro w'
         go_simp
         with_reducible rfl
        rotate_left
        ·simp only [Act.put, List.setIfInBounds_toArray, List.set_cons_zero, List.set_cons_succ, i64_w, i32_w]
         rfl
        refine pure_ (i := 17) (N := some 119) (v := ?_) (a' := ?_) (bm_ 20 262143) rfl rfl (any_of HT_.out (by kernel_rfl)) (fun _ _ _ h => h) (Or.inl ⟨by rfl, ?_⟩) ?_ ?_
        rotate_left
        ·intro w'
         go_simp
         with_reducible rfl
        rotate_left
        ·simp only [Act.put, List.setIfInBounds_toArray, List.set_cons_zero, List.set_cons_succ, i64_w, i32_w]
         rfl
        refine pure_ (i := 18) (N := some 120) (v := ?_) (a' := ?_) (bm_ 20 524287) rfl rfl (any_of HT_.out (by kernel_rfl)) (fun _ _ _ h => h) (Or.inl ⟨by rfl, ?_⟩) ?_ ?_
        rotate_left
        ·intro w'
         go_simp
         with_reducible rfl
        rotate_left
        ·simp only [Act.put, List.setIfInBounds_toArray, List.set_cons_zero, List.set_cons_succ, i64_w, i32_w]
         rfl
        refine pure_ (i := 19) (N := some 6) (v := ?_) (a' := ?_) (bm_ 20 1048575) rfl rfl (any_of HT_.out (by kernel_rfl)) (fun _ _ _ h => h) (Or.inl ⟨by rfl, ?_⟩) ?_ ?_
        rotate_left
        ·intro w'
         go_simp
         with_reducible rfl
        rotate_left
        ·simp only [Act.put, List.setIfInBounds_toArray, List.set_cons_zero, List.set_cons_succ, i64_w, i32_w]
         rfl
        refine done_ (done_of HT_.out (by kernel_rfl)) ?_
        try go_wp2
        go_ret
        exact ⟨by first | rfl | (simp [errW_none, errW_some] <;> rfl) | (simp [*, errW_none, errW_some] <;> rfl), by repeat (first | (with_reducible first | exact HB.out | apply below_alloc | apply pw_below_drewN | apply below_drew1 | refine below_set ?_ GE428.out | refine below_set ?_ GE429.out | refine below_set ?_ GE430.out | refine below_set ?_ GE438.out | refine below_set ?_ GE439.out | refine below_set ?_ GE442.out) | exact HB.out)⟩
       ·rw [if_neg c122] at H
        have c122b0 : ((t476 == t480 && (t477 == t481 && (t478 == t482))) && (t479 == t483)) = false := by first | (simp; done) | simpa using c122
        clear c122
        exact absurd H (by simp)
      ·rw [if_neg c119] at H
       have c119b0 : (t474 == t475) = false := by first | (simp; done) | simpa using c119
       (try (have c119b1 : decide (t474 = t475) = false := by first | (simp; done) | simpa using c119))
       (try (have c119b2 : (t474 == t475) = false := by first | (simp; done) | simpa using c119))
       (try (have c119b3 : ¬ (t474 = t475) := by first | (simp; done) | simpa using c119))
       clear c119
       exact absurd H (by simp)
    ·rw [if_neg c85] at H
     have c85b0 : decide (0 < t454) = false := decide_eq_false c85
     clear c85
     replace H := Option.bind_eq_some_iff.mp H
     obtain ⟨t484, A1420, H⟩ := H
     replace H : ((span_Apart.f kj10 t435 t436 t437 t432 t433 t434).bind fun t485 => (if (t484 == t485) = true then ((warpwrightlaw25_meet.f kj10 t432 t433 t434 t435 t436 t437).bind fun bt486 => ((warpwrightlaw25_meet.f kj10 t435 t436 t437 t432 t433 t434).bind fun bt490 => (if ((bt486.1 == bt490.1 && (bt486.2.1 == bt490.2.1 && (bt486.2.2.1 == bt490.2.2.1))) && (bt486.2.2.2 == bt490.2.2.2)) = true then (some true) else (none)))) else (none))) = some r := H
     have A142 := Aside0.mk A1420
     clear A1420
     replace H := Option.bind_eq_some_iff.mp H
     obtain ⟨t485, A1430, H⟩ := H
     replace H : (if (t484 == t485) = true then ((warpwrightlaw25_meet.f kj10 t432 t433 t434 t435 t436 t437).bind fun bt486 => ((warpwrightlaw25_meet.f kj10 t435 t436 t437 t432 t433 t434).bind fun bt490 => (if ((bt486.1 == bt490.1 && (bt486.2.1 == bt490.2.1 && (bt486.2.2.1 == bt490.2.2.1))) && (bt486.2.2.2 == bt490.2.2.2)) = true then (some true) else (none)))) else (none)) = some r := H
     have A143 := Aside0.mk A1430
     clear A1430
     by_cases c144 : (t484 == t485) = true
     ·rw [if_pos c144] at H
      have c144b0 : (t484 == t485) = true := c144
      (try (have c144b1 : decide (t484 = t485) = true := by first | (simp; done) | simpa using c144))
      (try (have c144b2 : (t484 == t485) = true := by first | (simp; done) | simpa using c144))
      clear c144
      replace H := Option.bind_eq_some_iff.mp H
      obtain ⟨⟨t486, t487, t488, t489⟩, A1450, H⟩ := H
      replace H : ((warpwrightlaw25_meet.f kj10 t435 t436 t437 t432 t433 t434).bind fun bt490 => (if ((t486 == bt490.1 && (t487 == bt490.2.1 && (t488 == bt490.2.2.1))) && (t489 == bt490.2.2.2)) = true then (some true) else (none))) = some r := H
      have A145 := Aside0.mk A1450
      clear A1450
      replace H := Option.bind_eq_some_iff.mp H
      obtain ⟨⟨t490, t491, t492, t493⟩, A1460, H⟩ := H
      replace H : (if ((t486 == t490 && (t487 == t491 && (t488 == t492))) && (t489 == t493)) = true then (some true) else (none)) = some r := H
      have A146 := Aside0.mk A1460
      clear A1460
      by_cases c147 : ((t486 == t490 && (t487 == t491 && (t488 == t492))) && (t489 == t493)) = true
      ·rw [if_pos c147] at H
       have c147b0 : ((t486 == t490 && (t487 == t491 && (t488 == t492))) && (t489 == t493)) = true := c147
       clear c147
       obtain rfl := Option.some.inj H
       have hnb148 := NB438_428.out
       have hnc148 := NB428_438.out
       have hnb149 := NB438_429.out
       have hnc149 := NB429_438.out
       have hnb150 := NB438_430.out
       have hnc150 := NB430_438.out
       have hnb151 := NB438_439.out
       have hnc151 := NB439_438.out
       have hnb152 := NB438_442.out
       have hnc152 := NB442_438.out
       have hcz153_0 : wc.cell? ⟨gb438, 0, none⟩ = some (.int .i64 t432) := (blk_cell BK438.out 0).trans rfl
       have hcz153_1 : wc.cell? ⟨gb438, 1, none⟩ = some (.int .i64 t433) := (blk_cell BK438.out 1).trans rfl
       have hcz153_2 : wc.cell? ⟨gb438, 2, none⟩ = some (.int .i64 t434) := (blk_cell BK438.out 2).trans rfl
       have hfz153_0 := blk_frozen BK438.out 0
       have hfz153_1 := blk_frozen BK438.out 1
       have hfz153_2 := blk_frozen BK438.out 2
       have hnb154 := NB439_428.out
       have hnc154 := NB428_439.out
       have hnb155 := NB439_429.out
       have hnc155 := NB429_439.out
       have hnb156 := NB439_430.out
       have hnc156 := NB430_439.out
       have hnb157 := NB439_442.out
       have hnc157 := NB442_439.out
       have hcz158_0 : wc.cell? ⟨gb439, 0, none⟩ = some (.int .i64 t435) := (blk_cell BK439.out 0).trans rfl
       have hcz158_1 : wc.cell? ⟨gb439, 1, none⟩ = some (.int .i64 t436) := (blk_cell BK439.out 1).trans rfl
       have hcz158_2 : wc.cell? ⟨gb439, 2, none⟩ = some (.int .i64 t437) := (blk_cell BK439.out 2).trans rfl
       have hfz158_0 := blk_frozen BK439.out 0
       have hfz158_1 := blk_frozen BK439.out 1
       have hfz158_2 := blk_frozen BK439.out 2
       try go_wp2_with (first | ((with_reducible refine gate_callee (f := 21) rfl ?_); refine goesL_ (some 82) rfl rfl Try.func21 (by kernel_rfl) rfl #[.int .i64 t434, .int .i64 t437] rfl am_ ?_; (with_reducible refine (warpwrightref25_Gcd.calls kj10 t434 t437 t454 _ A84.out).mono ?_); rintro e w' ⟨rfl, ⟨nd, rfl⟩⟩; refine ⟨_, rfl, ?_⟩))
       (try (rw [drewN_self wc]; generalize hq_ : World.drewN wc _ = wc; replace BK428 : Aside0 (wc.heap[gb428]? = some (.cells #[.int .i64 a0_0, .int .u32 a0_1, .int .u16 a0_2] 25 (0, 0))) := ⟨by rw [← hq_]; exact (bk_ BK428)⟩; replace BK429 : Aside0 (wc.heap[gb429]? = some (.cells #[.int .i64 a1_0, .int .u32 a1_1, .int .u16 a1_2] 25 (0, 0))) := ⟨by rw [← hq_]; exact (bk_ BK429)⟩; replace BK430 : Aside0 (wc.heap[gb430]? = some (.cells #[.int .u16 a2_0, .int .u16 a2_1] 38 (0, 0))) := ⟨by rw [← hq_]; exact (bk_ BK430)⟩; replace BK438 : Aside0 (wc.heap[gb438]? = some (.cells #[.int .i64 t432, .int .i64 t433, .int .i64 t434] 28 (0, 0))) := ⟨by rw [← hq_]; exact (bk_ BK438)⟩; replace BK439 : Aside0 (wc.heap[gb439]? = some (.cells #[.int .i64 t435, .int .i64 t436, .int .i64 t437] 28 (0, 0))) := ⟨by rw [← hq_]; exact (bk_ BK439)⟩; replace BK442 : Aside0 (wc.heap[gb442]? = some (.cells #[.int .i64 (wrap64 (t435 + (wrap64 (t440 - t441)))), .int .i64 (wrap64 (t436 + (wrap64 (t440 - t441)))), .int .i64 t437] 28 (0, 0))) := ⟨by rw [← hq_]; exact (bk_ BK442)⟩; replace HB : Aside0 (Below w.heap.size w wc) := ⟨by rw [← hq_]; exact (bl_ HB)⟩; clear hq_))
       replace BK428 := Aside0.mk (blk_drew BK428.out)
       replace BK429 := Aside0.mk (blk_drew BK429.out)
       replace BK430 := Aside0.mk (blk_drew BK430.out)
       replace BK438 := Aside0.mk (blk_drew BK438.out)
       replace BK439 := Aside0.mk (blk_drew BK439.out)
       replace BK442 := Aside0.mk (blk_drew BK442.out)
       replace HB := Aside0.mk (below_drew1 HB.out)
       refine start_ (n := 19) (S := fun w' => True) (ds := []) #[false, false, false, false, false, false, false, false, false, false, false, false, false, false, false, false, false, false, false] (by kernel_rfl) rfl rfl trivial (fun hHeld => ?_); refine with_tabW warpwrightlaw25_SpanGreat.tab12 warpwrightlaw25_SpanGreat.bits12 (fun HT_ HW_ => ?_)
       generalize wc.drew = w159 at BK428 BK429 BK430 BK438 BK439 BK442 HB hHeld ⊢
       refine pure_ (i := 0) (N := some 83) (v := ?_) (a' := ?_) (bm_ 19 1) rfl rfl (any_of HT_.out (by kernel_rfl)) (fun _ _ _ h => h) (Or.inl ⟨by rfl, ?_⟩) ?_ ?_
       rotate_left
       ·intro w'
        go_simp
        with_reducible rfl
       rotate_left
       ·simp only [Act.put, List.setIfInBounds_toArray, List.set_cons_zero, List.set_cons_succ, i64_w, i32_w]
        rfl
       refine pure_ (i := 1) (N := some 84) (v := ?_) (a' := ?_) (bm_ 19 3) rfl rfl (any_of HT_.out (by kernel_rfl)) (fun _ _ _ h => h) (Or.inl ⟨by rfl, ?_⟩) ?_ ?_
       rotate_left
       ·intro w'
        go_simp
        with_reducible rfl
       rotate_left
       ·simp only [Act.put, List.setIfInBounds_toArray, List.set_cons_zero, List.set_cons_succ, i64_w, i32_w]
        rfl
       refine pure_ (i := 2) (N := some 85) (v := ?_) (a' := ?_) (bm_ 19 7) rfl rfl (any_of HT_.out (by kernel_rfl)) (fun _ _ _ h => h) (Or.inl ⟨by rfl, ?_⟩) ?_ ?_
       rotate_left
       ·intro w'
        go_simp
        with_reducible rfl
       rotate_left
       ·simp only [Act.put, List.setIfInBounds_toArray, List.set_cons_zero, List.set_cons_succ, i64_w, i32_w]
        rfl
       refine pure_ (i := 3) (N := some 86) (v := undef) (a' := ?_) (bm_ 19 15) rfl rfl (any_of HT_.out (by kernel_rfl)) (fun _ _ _ h => h) (Or.inr ⟨by rfl, rfl⟩) ?_ ?_
       rotate_left
       ·simp only [Act.put, List.setIfInBounds_toArray, List.set_cons_zero, List.set_cons_succ, i64_w, i32_w]
        rfl
       refine pure_ (i := 4) (N := some 87) (v := undef) (a' := ?_) (bm_ 19 31) rfl rfl (any_of HT_.out (by kernel_rfl)) (fun _ _ _ h => h) (Or.inr ⟨by rfl, rfl⟩) ?_ ?_
       rotate_left
       ·simp only [Act.put, List.setIfInBounds_toArray, List.set_cons_zero, List.set_cons_succ, i64_w, i32_w]
        rfl
       refine pure_ (i := 5) (N := some 88) (v := undef) (a' := ?_) (bm_ 19 63) rfl rfl (any_of HT_.out (by kernel_rfl)) (fun _ _ _ h => h) (Or.inr ⟨by rfl, rfl⟩) ?_ ?_
       rotate_left
       ·simp only [Act.put, List.setIfInBounds_toArray, List.set_cons_zero, List.set_cons_succ, i64_w, i32_w]
        rfl
       refine pure_ (i := 6) (N := some 89) (v := undef) (a' := ?_) (bm_ 19 127) rfl rfl (any_of HT_.out (by kernel_rfl)) (fun _ _ _ h => h) (Or.inr ⟨by rfl, rfl⟩) ?_ ?_
       rotate_left
       ·simp only [Act.put, List.setIfInBounds_toArray, List.set_cons_zero, List.set_cons_succ, i64_w, i32_w]
        rfl
       refine pure_ (i := 7) (N := some 90) (v := undef) (a' := ?_) (bm_ 19 255) rfl rfl (any_of HT_.out (by kernel_rfl)) (fun _ _ _ h => h) (Or.inr ⟨by rfl, rfl⟩) ?_ ?_
       rotate_left
       ·simp only [Act.put, List.setIfInBounds_toArray, List.set_cons_zero, List.set_cons_succ, i64_w, i32_w]
        rfl
       refine pure_ (i := 8) (N := some 91) (v := undef) (a' := ?_) (bm_ 19 511) rfl rfl (any_of HT_.out (by kernel_rfl)) (fun _ _ _ h => h) (Or.inr ⟨by rfl, rfl⟩) ?_ ?_
       rotate_left
       ·simp only [Act.put, List.setIfInBounds_toArray, List.set_cons_zero, List.set_cons_succ, i64_w, i32_w]
        rfl
       refine pure_ (i := 9) (N := some 92) (v := undef) (a' := ?_) (bm_ 19 1023) rfl rfl (any_of HT_.out (by kernel_rfl)) (fun _ _ _ h => h) (Or.inr ⟨by rfl, rfl⟩) ?_ ?_
       rotate_left
       ·simp only [Act.put, List.setIfInBounds_toArray, List.set_cons_zero, List.set_cons_succ, i64_w, i32_w]
        rfl
       refine pure_ (i := 10) (N := some 93) (v := undef) (a' := ?_) (bm_ 19 2047) rfl rfl (any_of HT_.out (by kernel_rfl)) (fun _ _ _ h => h) (Or.inr ⟨by rfl, rfl⟩) ?_ ?_
       rotate_left
       ·simp only [Act.put, List.setIfInBounds_toArray, List.set_cons_zero, List.set_cons_succ, i64_w, i32_w]
        rfl
       refine pure_ (i := 11) (N := some 94) (v := undef) (a' := ?_) (bm_ 19 4095) rfl rfl (any_of HT_.out (by kernel_rfl)) (fun _ _ _ h => h) (Or.inr ⟨by rfl, rfl⟩) ?_ ?_
       rotate_left
       ·simp only [Act.put, List.setIfInBounds_toArray, List.set_cons_zero, List.set_cons_succ, i64_w, i32_w]
        rfl
       refine pure_ (i := 12) (N := some 95) (v := ?_) (a' := ?_) (bm_ 19 8191) rfl rfl (any_of HT_.out (by kernel_rfl)) (fun _ _ _ h => h) (Or.inl ⟨by rfl, ?_⟩) ?_ ?_
       rotate_left
       ·intro w'
        go_simp
        with_reducible rfl
       rotate_left
       ·simp only [Act.put, List.setIfInBounds_toArray, List.set_cons_zero, List.set_cons_succ, i64_w, i32_w]
        rfl
       refine pure_ (i := 13) (N := some 96) (v := ?_) (a' := ?_) (bm_ 19 16383) rfl rfl (any_of HT_.out (by kernel_rfl)) (fun _ _ _ h => h) (Or.inl ⟨by rfl, ?_⟩) ?_ ?_
       rotate_left
       ·intro w'
        go_simp
        with_reducible rfl
       rotate_left
       ·simp only [Act.put, List.setIfInBounds_toArray, List.set_cons_zero, List.set_cons_succ, i64_w, i32_w]
        rfl
       refine pure_ (i := 14) (N := some 97) (v := undef) (a' := ?_) (bm_ 19 32767) rfl rfl (any_of HT_.out (by kernel_rfl)) (fun _ _ _ h => h) (Or.inr ⟨by rfl, rfl⟩) ?_ ?_
       rotate_left
       ·simp only [Act.put, List.setIfInBounds_toArray, List.set_cons_zero, List.set_cons_succ, i64_w, i32_w]
        rfl
       refine pure_ (i := 15) (N := some 98) (v := undef) (a' := ?_) (bm_ 19 65535) rfl rfl (any_of HT_.out (by kernel_rfl)) (fun _ _ _ h => h) (Or.inr ⟨by rfl, rfl⟩) ?_ ?_
       rotate_left
       ·simp only [Act.put, List.setIfInBounds_toArray, List.set_cons_zero, List.set_cons_succ, i64_w, i32_w]
        rfl
       refine pure_ (i := 16) (N := some 99) (v := undef) (a' := ?_) (bm_ 19 131071) rfl rfl (any_of HT_.out (by kernel_rfl)) (fun _ _ _ h => h) (Or.inr ⟨by rfl, rfl⟩) ?_ ?_
       rotate_left
       ·simp only [Act.put, List.setIfInBounds_toArray, List.set_cons_zero, List.set_cons_succ, i64_w, i32_w]
        rfl
       refine pure_ (i := 17) (N := some 100) (v := undef) (a' := ?_) (bm_ 19 262143) rfl rfl (any_of HT_.out (by kernel_rfl)) (fun _ _ _ h => h) (Or.inr ⟨by rfl, rfl⟩) ?_ ?_
       rotate_left
       ·simp only [Act.put, List.setIfInBounds_toArray, List.set_cons_zero, List.set_cons_succ, i64_w, i32_w]
        rfl
       refine pure_ (i := 18) (N := some 101) (v := ?_) (a' := ?_) (bm_ 19 524287) rfl rfl (any_of HT_.out (by kernel_rfl)) (fun _ _ _ h => h) (Or.inl ⟨by rfl, ?_⟩) ?_ ?_
       rotate_left
       ·intro w'
        go_simp
        with_reducible rfl
       rotate_left
       ·simp only [Act.put, List.setIfInBounds_toArray, List.set_cons_zero, List.set_cons_succ, i64_w, i32_w]
        rfl
       refine done_ (done_of HT_.out (by kernel_rfl)) ?_
       try go_wp2
       replace BK428 := Aside0.mk (blk_drew BK428.out)
       replace BK429 := Aside0.mk (blk_drew BK429.out)
       replace BK430 := Aside0.mk (blk_drew BK430.out)
       replace BK438 := Aside0.mk (blk_drew BK438.out)
       replace BK439 := Aside0.mk (blk_drew BK439.out)
       replace BK442 := Aside0.mk (blk_drew BK442.out)
       replace HB := Aside0.mk (below_drew1 HB.out)
       refine start_ (n := 20) (S := fun w' => w'.cell? ⟨gb438, 0, none⟩ = some (.int .i64 t432) ∧ w'.cell? ⟨gb438, 1, none⟩ = some (.int .i64 t433) ∧ w'.cell? ⟨gb438, 2, none⟩ = some (.int .i64 t434) ∧ w'.cell? ⟨gb439, 0, none⟩ = some (.int .i64 t435) ∧ w'.cell? ⟨gb439, 1, none⟩ = some (.int .i64 t436) ∧ w'.cell? ⟨gb439, 2, none⟩ = some (.int .i64 t437)) (ds := []) #[false, false, false, false, false, false, false, false, false, false, false, false, false, false, false, false, false, false, false, false] (by kernel_rfl) rfl rfl ⟨(blk_cell BK438.out 0).trans rfl, (blk_cell BK438.out 1).trans rfl, (blk_cell BK438.out 2).trans rfl, (blk_cell BK439.out 0).trans rfl, (blk_cell BK439.out 1).trans rfl, (blk_cell BK439.out 2).trans rfl⟩ (fun hHeld => ?_); refine with_tabW warpwrightlaw25_SpanGreat.tab14 warpwrightlaw25_SpanGreat.bits14 (fun HT_ HW_ => ?_)
       generalize w159.drew = w160 at BK428 BK429 BK430 BK438 BK439 BK442 HB hHeld ⊢
       refine take_ (i := 0) (N := some 102) (v := ?_) (a' := ?_) (bm_ 20 1) rfl rfl (take_ofW HT_.out HW_.out (by kernel_rfl)) (fun _ _ _ h => h) (Or.inl ⟨by rfl, ?_⟩) hHeld ?_ ?_
       rotate_left
       ·rintro w' ⟨s0, s1, s2, s3, s4, s5⟩
        go_simp
        with_reducible rfl
       rotate_left
       ·simp only [Act.put, List.setIfInBounds_toArray, List.set_cons_zero, List.set_cons_succ, i64_w, i32_w]
        rfl
       refine take_ (i := 1) (N := some 103) (v := ?_) (a' := ?_) (bm_ 20 3) rfl rfl (take_ofW HT_.out HW_.out (by kernel_rfl)) (fun _ _ _ h => h) (Or.inl ⟨by rfl, ?_⟩) hHeld ?_ ?_
       rotate_left
       ·rintro w' ⟨s0, s1, s2, s3, s4, s5⟩
        go_simp
        with_reducible rfl
       rotate_left
       ·simp only [Act.put, List.setIfInBounds_toArray, List.set_cons_zero, List.set_cons_succ, i64_w, i32_w]
        rfl
       refine take_ (i := 3) (N := some 105) (v := ?_) (a' := ?_) (bm_ 20 11) rfl rfl (take_ofW HT_.out HW_.out (by kernel_rfl)) (fun _ _ _ h => h) (Or.inl ⟨by rfl, ?_⟩) hHeld ?_ ?_
       rotate_left
       ·rintro w' ⟨s0, s1, s2, s3, s4, s5⟩
        go_simp
        with_reducible rfl
       rotate_left
       ·simp only [Act.put, List.setIfInBounds_toArray, List.set_cons_zero, List.set_cons_succ, i64_w, i32_w]
        rfl
       refine take_ (i := 4) (N := some 106) (v := ?_) (a' := ?_) (bm_ 20 27) rfl rfl (take_ofW HT_.out HW_.out (by kernel_rfl)) (fun _ _ _ h => h) (Or.inl ⟨by rfl, ?_⟩) hHeld ?_ ?_
       rotate_left
       ·rintro w' ⟨s0, s1, s2, s3, s4, s5⟩
        go_simp
        with_reducible rfl
       rotate_left
       ·simp only [Act.put, List.setIfInBounds_toArray, List.set_cons_zero, List.set_cons_succ, i64_w, i32_w]
        rfl
       refine one_ (i := 2) (N := some 104) (bm_ 20 31) rfl rfl (one_of HT_.out (by kernel_rfl)) (by decide) (fun K hK => ?_)
       refine goes_ Try.func14 (by kernel_rfl) rfl #[.agg #[.int .i64 t432, .int .i64 t433, .int .i64 t434], .agg #[.int .i64 t435, .int .i64 t436, .int .i64 t437]] (by rfl) rfl rfl am_ ?_
       with_reducible refine (span_Apart.calls kj10 t432 t433 t434 t435 t436 t437 t484 _ A142.out).mono ?_
       rintro e w161 ⟨rfl, hb⟩
       refine ⟨_, rfl, ?_⟩
       replace BK428 := Aside0.mk (bb_ BK428 hb)
       replace BK429 := Aside0.mk (bb_ BK429 hb)
       replace BK430 := Aside0.mk (bb_ BK430 hb)
       replace BK438 := Aside0.mk (bb_ BK438 hb)
       replace BK439 := Aside0.mk (bb_ BK439 hb)
       replace BK442 := Aside0.mk (bb_ BK442 hb)
       replace HB := Aside0.mk (below_step (bl_ HB) hb)
       (try clear hb)
       (try clear hb2)
       (try clear hk)
       (try clear hi)
       refine hK.out _ _ ⟨(blk_cell BK438.out 0).trans rfl, (blk_cell BK438.out 1).trans rfl, (blk_cell BK438.out 2).trans rfl, (blk_cell BK439.out 0).trans rfl, (blk_cell BK439.out 1).trans rfl, (blk_cell BK439.out 2).trans rfl⟩ (fun hHeld => ?_)
       clear hK K
       refine norm_ (a' := ?_) ?_ ?_
       rotate_left
       ·show Act.put _ (some 104) _ = _
        simp only [Act.put, List.setIfInBounds_toArray, List.set_cons_zero, List.set_cons_succ, i64_w, i32_w]
        rfl
       refine one_ (i := 5) (N := some 107) (bm_ 20 63) rfl rfl (one_of HT_.out (by kernel_rfl)) (by decide) (fun K hK => ?_)
       refine goes_ Try.func14 (by kernel_rfl) rfl #[.agg #[.int .i64 t435, .int .i64 t436, .int .i64 t437], .agg #[.int .i64 t432, .int .i64 t433, .int .i64 t434]] (by rfl) rfl rfl am_ ?_
       with_reducible refine (span_Apart.calls kj10 t435 t436 t437 t432 t433 t434 t485 _ A143.out).mono ?_
       rintro e w162 ⟨rfl, hb⟩
       refine ⟨_, rfl, ?_⟩
       replace BK428 := Aside0.mk (bb_ BK428 hb)
       replace BK429 := Aside0.mk (bb_ BK429 hb)
       replace BK430 := Aside0.mk (bb_ BK430 hb)
       replace BK438 := Aside0.mk (bb_ BK438 hb)
       replace BK439 := Aside0.mk (bb_ BK439 hb)
       replace BK442 := Aside0.mk (bb_ BK442 hb)
       replace HB := Aside0.mk (below_step (bl_ HB) hb)
       (try clear hb)
       (try clear hb2)
       (try clear hk)
       (try clear hi)
       refine hK.out _ _ ⟨(blk_cell BK438.out 0).trans rfl, (blk_cell BK438.out 1).trans rfl, (blk_cell BK438.out 2).trans rfl, (blk_cell BK439.out 0).trans rfl, (blk_cell BK439.out 1).trans rfl, (blk_cell BK439.out 2).trans rfl⟩ (fun hHeld => ?_)
       clear hK K
       refine norm_ (a' := ?_) ?_ ?_
       rotate_left
       ·show Act.put _ (some 107) _ = _
        simp only [Act.put, List.setIfInBounds_toArray, List.set_cons_zero, List.set_cons_succ, i64_w, i32_w]
        rfl
       refine pure_ (i := 6) (N := some 108) (v := ?_) (a' := ?_) (bm_ 20 127) rfl rfl (any_of HT_.out (by kernel_rfl)) (fun _ _ _ h => h) (Or.inl ⟨by rfl, ?_⟩) ?_ ?_
       rotate_left
       ·intro w'
        go_simp
        with_reducible rfl
       rotate_left
       ·simp only [Act.put, List.setIfInBounds_toArray, List.set_cons_zero, List.set_cons_succ, i64_w, i32_w]
        rfl
       refine pure_ (i := 7) (N := some 109) (v := ?_) (a' := ?_) (bm_ 20 255) rfl rfl (any_of HT_.out (by kernel_rfl)) (fun _ _ _ h => h) (Or.inl ⟨by rfl, ?_⟩) ?_ ?_
       rotate_left
       ·intro w'
        go_simp
        with_reducible rfl
       rotate_left
       ·simp only [Act.put, List.setIfInBounds_toArray, List.set_cons_zero, List.set_cons_succ, i64_w, i32_w]
        rfl
       refine take_ (i := 8) (N := some 110) (v := ?_) (a' := ?_) (bm_ 20 511) rfl rfl (take_ofW HT_.out HW_.out (by kernel_rfl)) (fun _ _ _ h => h) (Or.inl ⟨by rfl, ?_⟩) hHeld ?_ ?_
       rotate_left
       ·rintro w' ⟨s0, s1, s2, s3, s4, s5⟩
        go_simp
        with_reducible rfl
       rotate_left
       ·simp only [Act.put, List.setIfInBounds_toArray, List.set_cons_zero, List.set_cons_succ, i64_w, i32_w]
        rfl
       refine take_ (i := 9) (N := some 111) (v := ?_) (a' := ?_) (bm_ 20 1023) rfl rfl (take_ofW HT_.out HW_.out (by kernel_rfl)) (fun _ _ _ h => h) (Or.inl ⟨by rfl, ?_⟩) hHeld ?_ ?_
       rotate_left
       ·rintro w' ⟨s0, s1, s2, s3, s4, s5⟩
        go_simp
        with_reducible rfl
       rotate_left
       ·simp only [Act.put, List.setIfInBounds_toArray, List.set_cons_zero, List.set_cons_succ, i64_w, i32_w]
        rfl
       refine take_ (i := 11) (N := some 113) (v := ?_) (a' := ?_) (bm_ 20 3071) rfl rfl (take_ofW HT_.out HW_.out (by kernel_rfl)) (fun _ _ _ h => h) (Or.inl ⟨by rfl, ?_⟩) hHeld ?_ ?_
       rotate_left
       ·rintro w' ⟨s0, s1, s2, s3, s4, s5⟩
        go_simp
        with_reducible rfl
       rotate_left
       ·simp only [Act.put, List.setIfInBounds_toArray, List.set_cons_zero, List.set_cons_succ, i64_w, i32_w]
        rfl
       refine take_ (i := 12) (N := some 114) (v := ?_) (a' := ?_) (bm_ 20 7167) rfl rfl (take_ofW HT_.out HW_.out (by kernel_rfl)) (fun _ _ _ h => h) (Or.inl ⟨by rfl, ?_⟩) hHeld ?_ ?_
       rotate_left
       ·rintro w' ⟨s0, s1, s2, s3, s4, s5⟩
        go_simp
        with_reducible rfl
       rotate_left
       ·simp only [Act.put, List.setIfInBounds_toArray, List.set_cons_zero, List.set_cons_succ, i64_w, i32_w]
        rfl
       refine one_ (i := 10) (N := some 112) (bm_ 20 8191) rfl rfl (one_of HT_.out (by kernel_rfl)) (by decide) (fun K hK => ?_)
       refine goes_ Try.func12 (by kernel_rfl) rfl #[.agg #[.int .i64 t432, .int .i64 t433, .int .i64 t434], .agg #[.int .i64 t435, .int .i64 t436, .int .i64 t437]] (by rfl) rfl rfl am_ ?_
       with_reducible refine (warpwrightlaw25_meet.calls kj10 t432 t433 t434 t435 t436 t437 t486 t487 t488 t489 _ A145.out).mono ?_
       rintro e w163 ⟨rfl, hb⟩
       refine ⟨_, rfl, ?_⟩
       replace BK428 := Aside0.mk (bb_ BK428 hb)
       replace BK429 := Aside0.mk (bb_ BK429 hb)
       replace BK430 := Aside0.mk (bb_ BK430 hb)
       replace BK438 := Aside0.mk (bb_ BK438 hb)
       replace BK439 := Aside0.mk (bb_ BK439 hb)
       replace BK442 := Aside0.mk (bb_ BK442 hb)
       replace HB := Aside0.mk (below_step (bl_ HB) hb)
       (try clear hb)
       (try clear hb2)
       (try clear hk)
       (try clear hi)
       refine hK.out _ _ ⟨(blk_cell BK438.out 0).trans rfl, (blk_cell BK438.out 1).trans rfl, (blk_cell BK438.out 2).trans rfl, (blk_cell BK439.out 0).trans rfl, (blk_cell BK439.out 1).trans rfl, (blk_cell BK439.out 2).trans rfl⟩ (fun hHeld => ?_)
       clear hK K
       refine norm_ (a' := ?_) ?_ ?_
       rotate_left
       ·show Act.put _ (some 112) _ = _
        simp only [Act.put, List.setIfInBounds_toArray, List.set_cons_zero, List.set_cons_succ, i64_w, i32_w]
        rfl
       refine one_ (i := 13) (N := some 115) (bm_ 20 16383) rfl rfl (one_of HT_.out (by kernel_rfl)) (by decide) (fun K hK => ?_)
       refine goes_ Try.func12 (by kernel_rfl) rfl #[.agg #[.int .i64 t435, .int .i64 t436, .int .i64 t437], .agg #[.int .i64 t432, .int .i64 t433, .int .i64 t434]] (by rfl) rfl rfl am_ ?_
       with_reducible refine (warpwrightlaw25_meet.calls kj10 t435 t436 t437 t432 t433 t434 t490 t491 t492 t493 _ A146.out).mono ?_
       rintro e w164 ⟨rfl, hb⟩
       refine ⟨_, rfl, ?_⟩
       replace BK428 := Aside0.mk (bb_ BK428 hb)
       replace BK429 := Aside0.mk (bb_ BK429 hb)
       replace BK430 := Aside0.mk (bb_ BK430 hb)
       replace BK438 := Aside0.mk (bb_ BK438 hb)
       replace BK439 := Aside0.mk (bb_ BK439 hb)
       replace BK442 := Aside0.mk (bb_ BK442 hb)
       replace HB := Aside0.mk (below_step (bl_ HB) hb)
       (try clear hb)
       (try clear hb2)
       (try clear hk)
       (try clear hi)
       refine hK.out _ _ ⟨(blk_cell BK438.out 0).trans rfl, (blk_cell BK438.out 1).trans rfl, (blk_cell BK438.out 2).trans rfl, (blk_cell BK439.out 0).trans rfl, (blk_cell BK439.out 1).trans rfl, (blk_cell BK439.out 2).trans rfl⟩ (fun hHeld => ?_)
       clear hK K
       refine norm_ (a' := ?_) ?_ ?_
       rotate_left
       ·show Act.put _ (some 115) _ = _
        simp only [Act.put, List.setIfInBounds_toArray, List.set_cons_zero, List.set_cons_succ, i64_w, i32_w]
        rfl
       refine pure_ (i := 14) (N := some 116) (v := ?_) (a' := ?_) (bm_ 20 32767) rfl rfl (any_of HT_.out (by kernel_rfl)) (fun _ _ _ h => h) (Or.inl ⟨by rfl, ?_⟩) ?_ ?_
       rotate_left
       ·intro w'
        go_simp
        with_reducible rfl
       rotate_left
       ·simp only [Act.put, List.setIfInBounds_toArray, List.set_cons_zero, List.set_cons_succ, i64_w, i32_w]
        rfl
       refine pure_ (i := 15) (N := some 117) (v := ?_) (a' := ?_) (bm_ 20 65535) rfl rfl (any_of HT_.out (by kernel_rfl)) (fun _ _ _ h => h) (Or.inl ⟨by rfl, ?_⟩) ?_ ?_
       rotate_left
       ·intro w'
        go_simp
        with_reducible rfl
       rotate_left
       ·simp only [Act.put, List.setIfInBounds_toArray, List.set_cons_zero, List.set_cons_succ, i64_w, i32_w]
        rfl
       refine pure_ (i := 16) (N := some 118) (v := ?_) (a' := ?_) (bm_ 20 131071) rfl rfl (any_of HT_.out (by kernel_rfl)) (fun _ _ _ h => h) (Or.inl ⟨by rfl, ?_⟩) ?_ ?_
       rotate_left
       ·intro w'
        go_simp
        with_reducible rfl
       rotate_left
       ·simp only [Act.put, List.setIfInBounds_toArray, List.set_cons_zero, List.set_cons_succ, i64_w, i32_w]
        rfl
       refine pure_ (i := 17) (N := some 119) (v := ?_) (a' := ?_) (bm_ 20 262143) rfl rfl (any_of HT_.out (by kernel_rfl)) (fun _ _ _ h => h) (Or.inl ⟨by rfl, ?_⟩) ?_ ?_
       rotate_left
       ·intro w'
        go_simp
        with_reducible rfl
       rotate_left
       ·simp only [Act.put, List.setIfInBounds_toArray, List.set_cons_zero, List.set_cons_succ, i64_w, i32_w]
        rfl
       refine pure_ (i := 18) (N := some 120) (v := ?_) (a' := ?_) (bm_ 20 524287) rfl rfl (any_of HT_.out (by kernel_rfl)) (fun _ _ _ h => h) (Or.inl ⟨by rfl, ?_⟩) ?_ ?_
       rotate_left
       ·intro w'
        go_simp
        with_reducible rfl
       rotate_left
       ·simp only [Act.put, List.setIfInBounds_toArray, List.set_cons_zero, List.set_cons_succ, i64_w, i32_w]
        rfl
       refine pure_ (i := 19) (N := some 6) (v := ?_) (a' := ?_) (bm_ 20 1048575) rfl rfl (any_of HT_.out (by kernel_rfl)) (fun _ _ _ h => h) (Or.inl ⟨by rfl, ?_⟩) ?_ ?_
       rotate_left
       ·intro w'
        go_simp
        with_reducible rfl
       rotate_left
       ·simp only [Act.put, List.setIfInBounds_toArray, List.set_cons_zero, List.set_cons_succ, i64_w, i32_w]
        rfl
       refine done_ (done_of HT_.out (by kernel_rfl)) ?_
       try go_wp2
       go_ret
       exact ⟨by first | rfl | (simp [errW_none, errW_some] <;> rfl) | (simp [*, errW_none, errW_some] <;> rfl), by repeat (first | (with_reducible first | exact HB.out | apply below_alloc | apply pw_below_drewN | apply below_drew1 | refine below_set ?_ GE428.out | refine below_set ?_ GE429.out | refine below_set ?_ GE430.out | refine below_set ?_ GE438.out | refine below_set ?_ GE439.out | refine below_set ?_ GE442.out) | exact HB.out)⟩
      ·rw [if_neg c147] at H
       have c147b0 : ((t486 == t490 && (t487 == t491 && (t488 == t492))) && (t489 == t493)) = false := by first | (simp; done) | simpa using c147
       clear c147
       exact absurd H (by simp)
     ·rw [if_neg c144] at H
      have c144b0 : (t484 == t485) = false := by first | (simp; done) | simpa using c144
      (try (have c144b1 : decide (t484 = t485) = false := by first | (simp; done) | simpa using c144))
      (try (have c144b2 : (t484 == t485) = false := by first | (simp; done) | simpa using c144))
      (try (have c144b3 : ¬ (t484 = t485) := by first | (simp; done) | simpa using c144))
      clear c144
      exact absurd H (by simp)
 ·replace c5 := Bool.eq_false_iff.mpr c5
  subst c5
  have H1 : (none) = some r := by rw [if_neg (show ¬ (false = true) by decide)] at H; exact H
  clear H
  have H := H1
  clear H1
  exact absurd H (by simp)

end Go.Proofs.Yteghmmkhfgkdgaa.QS
