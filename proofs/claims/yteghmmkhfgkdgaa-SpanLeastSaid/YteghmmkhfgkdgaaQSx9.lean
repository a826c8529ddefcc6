-- Written by a program of this session (pp.py) over the kit's printer; Lean checks it.
import Derived.Test.YteghmmkhfgkdgaaQSx0
import Derived.Test.YteghmmkhfgkdgaaQSx1
import Derived.Test.YteghmmkhfgkdgaaQSx2
import Derived.Test.YteghmmkhfgkdgaaQSx3
import Derived.Test.YteghmmkhfgkdgaaQSx4
import Derived.Test.YteghmmkhfgkdgaaQSx6
import Derived.Test.YteghmmkhfgkdgaaQSx7
import Derived.Test.YteghmmkhfgkdgaaQSx8
namespace Go.Proofs.Yteghmmkhfgkdgaa.QS
open Go.RowKit Go.Proofs.YteghmmkhfgkdgaaW.PrintWords Go.Proofs.YteghmmkhfgkdgaaW.PrintLast Go.Proofs.YteghmmkhfgkdgaaW.PrintMore
attribute [local go_sem] max2_int min2_int max_two min_two max_three min_three max_four min_four   -- for this text's walks alone
set_option linter.unusedVariables false
set_option linter.unusedSimpArgs false

attribute [local go_sem high] eqA28 eqA31 eqA43
/-! ### warpwrightlaw25_examples: function 10 -/
def warpwrightlaw25_examples.f (k : Nat)  : Option (Bool) := (warpwrightlaw25_of.f 1 10 4).bind fun bt264 => ((warpwrightlaw25_is.f 1 9 4).bind fun bt268 => (if ((!(bt264.1 == bt268.1) || (!(bt264.2.1 == bt268.2.1) || (!(bt264.2.2.1 == bt268.2.2.1)))) || (!(bt264.2.2.2 == bt268.2.2.2))) = true then (none) else ((warpwrightlaw25_of.f 5 7 4).bind fun bt272 => ((warpwrightlaw25_is.f 5 5 0).bind fun bt276 => (if ((!(bt272.1 == bt276.1) || (!(bt272.2.1 == bt276.2.1) || (!(bt272.2.2.1 == bt276.2.2.1)))) || (!(bt272.2.2.2 == bt276.2.2.2))) = true then (none) else ((warpwrightlaw25_of.f 5 4 1).bind fun bt280 => (if bt280.2.2.2 = 1 then ((warpwrightlaw25_is.f 0 6 2).bind fun bt284 => ((warpwrightlaw25_is.f 1 4 3).bind fun bt288 => ((warpwrightlaw25_add.f k bt284.1 bt284.2.1 bt284.2.2.1 bt288.1 bt288.2.1 bt288.2.2.1).bind fun bt292 => ((warpwrightlaw25_is.f 1 10 1).bind fun bt296 => (if ((!(bt292.1 == bt296.1) || (!(bt292.2.1 == bt296.2.1) || (!(bt292.2.2.1 == bt296.2.2.1)))) || (!(bt292.2.2.2 == bt296.2.2.2))) = true then (none) else ((warpwrightlaw25_is.f 2 4 2).bind fun bt300 => ((warpwrightlaw25_is.f 3 5 2).bind fun bt304 => ((warpwrightlaw25_mul.f k bt300.1 bt300.2.1 bt300.2.2.1 bt304.1 bt304.2.1 bt304.2.2.1).bind fun bt308 => ((warpwrightlaw25_is.f 6 20 2).bind fun bt312 => (if ((!(bt308.1 == bt312.1) || (!(bt308.2.1 == bt312.2.1) || (!(bt308.2.2.1 == bt312.2.2.1)))) || (!(bt308.2.2.2 == bt312.2.2.2))) = true then (none) else ((warpwrightlaw25_is.f 0 20 4).bind fun bt316 => ((warpwrightlaw25_is.f 2 20 6).bind fun bt320 => ((warpwrightlaw25_is.f 0 4 4).bind fun bt326 => ((warpwrightlaw25_is.f 6 6 0).bind fun bt330 => ((span_Join.f k bt326.1 bt326.2.1 bt326.2.2.1 bt330.1 bt330.2.1 bt330.2.2.1).bind fun bt334 => ((warpwrightlaw25_is.f 0 6 2).bind fun bt337 => (if (!(bt334.1 == bt337.1) || (!(bt334.2.1 == bt337.2.1) || (!(bt334.2.2 == bt337.2.2.1)))) = true then (none) else ((warpwrightlaw25_meet.f k bt316.1 bt316.2.1 bt316.2.2.1 bt320.1 bt320.2.1 bt320.2.2.1).bind fun bt341 => ((warpwrightlaw25_is.f 8 20 12).bind fun bt345 => (if ((!(bt341.1 == bt345.1) || (!(bt341.2.1 == bt345.2.1) || (!(bt341.2.2.1 == bt345.2.2.1)))) || (!bt341.2.2.2)) = true then (none) else ((warpwrightlaw25_is.f 1 21 2).bind fun bt349 => ((span_Apart.f k bt316.1 bt316.2.1 bt316.2.2.1 bt349.1 bt349.2.1 bt349.2.2.1).bind fun t353 => (if t353 = true then ((span_Apart.f k bt316.1 bt316.2.1 bt316.2.2.1 bt320.1 bt320.2.1 bt320.2.2.1).bind fun t354 => (if t354 = true then (none) else ((warpwrightlaw25_is.f 5 29 12).bind fun bt355 => ((warpwrightlaw25_mod.f k bt355.1 bt355.2.1 bt355.2.2.1 8).bind fun bt359 => ((warpwrightlaw25_is.f 1 5 4).bind fun bt363 => (if ((!(bt359.1 == bt363.1) || (!(bt359.2.1 == bt363.2.1) || (!(bt359.2.2.1 == bt363.2.2.1)))) || (!(bt359.2.2.2 == bt363.2.2.2))) = true then (none) else ((span_Valid.f k bt316.1 bt316.2.1 bt316.2.2.1).bind fun t367 => (if t367 = true then ((span_Valid.f k 0 5 2).bind fun t368 => (if t368 = true then (none) else ((span_Has.f bt316.1 bt316.2.1 bt316.2.2.1 8).bind fun t369 => (if t369 = true then ((span_Has.f bt316.1 bt316.2.1 bt316.2.2.1 6).bind fun t370 => (if t370 = true then (none) else ((span_Size.f bt316.1 bt316.2.1 bt316.2.2.1).bind fun t371 => (if t371 = 6 then ((warpwrightlaw25_scale.f k bt316.1 bt316.2.1 bt316.2.2.1 1099511627776).bind fun bt372 => (some (bt372.2.2.2 == 2))) else (none))))) else (none))))) else (none))))))))) else (none)))))))))))))))))))))))) else (none))))))))
theorem warpwrightlaw25_examples.mono : ∀ k, LeO (warpwrightlaw25_examples.f k ) (warpwrightlaw25_examples.f (k + 1) ) := by
 intro  k
 unfold warpwrightlaw25_examples.f
 repeat' first
   | (with_reducible exact span_Apart.mono _ _ _ _ _ _ _)
   | (with_reducible exact span_Join.mono _ _ _ _ _ _ _)
   | (with_reducible exact span_Valid.mono _ _ _ _)
   | (with_reducible exact warpwrightlaw25_add.mono _ _ _ _ _ _ _)
   | (with_reducible exact warpwrightlaw25_meet.mono _ _ _ _ _ _ _)
   | (with_reducible exact warpwrightlaw25_mod.mono _ _ _ _ _)
   | (with_reducible exact warpwrightlaw25_mul.mono _ _ _ _ _ _ _)
   | (with_reducible exact warpwrightlaw25_scale.mono _ _ _ _ _)
   | (with_reducible exact LeO.refl _)
   | (with_reducible exact LeO.none _)
   | (with_reducible refine LeO.ite ?_ ?_)
   | (with_reducible refine LeO.bind ?_ (fun _ => ?_))
   | exact span_Apart.mono _ _ _ _ _ _ _
   | exact span_Join.mono _ _ _ _ _ _ _
   | exact span_Valid.mono _ _ _ _
   | exact warpwrightlaw25_add.mono _ _ _ _ _ _ _
   | exact warpwrightlaw25_meet.mono _ _ _ _ _ _ _
   | exact warpwrightlaw25_mod.mono _ _ _ _ _
   | exact warpwrightlaw25_mul.mono _ _ _ _ _ _ _
   | exact warpwrightlaw25_scale.mono _ _ _ _ _
   | exact LeO.none _
   | refine LeO.ite ?_ ?_
   | refine LeO.bind ?_ (fun _ => ?_)
def warpwrightlaw25_examples.T4 : Bool × List (List Nat × List Nat) := (true, [([], []), ([0], [0]), ([0], []), ([2], [2]), ([1, 3, 2], [1, 3]), ([4], []), ([5], [5]), ([4, 6], [4, 6]), ([7, 5], [7]), ([8], [8]), ([8], [8]), ([9, 10, 8, 8], [8, 9, 10]), ([11, 8], [8]), ([12, 8], [8, 12]), ([13, 8], [8, 13]), ([11, 14, 8], [8, 11, 14]), ([8, 15], [8, 15]), ([16, 12], [16]), ([17], [17]), ([17, 17], [17]), ([19, 17], [17, 19]), ([18, 20, 19, 17], [17, 18, 20]), ([21, 17], [17, 21]), ([17, 22], [17, 22]), ([23, 21], [23]), ([24], [24]), ([24], [24]), ([25, 26, 24, 24], [24, 25, 26]), ([24, 27], [24, 27]), ([28, 27], [28]), ([29, 29], [29]), ([30, 29], [29, 30]), ([31, 30, 29], [29, 31]), ([32, 29], [29]), ([32, 33, 29], [29, 32, 33]), ([29, 34], [29, 34])])
def warpwrightlaw25_examples.B4 : List Nat := [0, 1, 1, 5, 15, 31, 63, 127, 255, 511, 511, 2047, 4095, 8191, 16383, 32767, 65535, 131071, 262143, 262143, 786431, 2097151, 4194303, 8388607, 16777215, 33554431, 33554431, 134217727, 268435455, 536870911, 1073741823, 2147483647, 4294967295, 8589934591, 17179869183, 34359738367]
theorem warpwrightlaw25_examples.tab4 : rtab .any (opsOf Try.f10 4) = warpwrightlaw25_examples.T4 := by kernel_rfl
theorem warpwrightlaw25_examples.bits4 : waitsOk warpwrightlaw25_examples.T4.2 warpwrightlaw25_examples.B4 = true := by kernel_rfl
set_option maxHeartbeats 8000000 in
set_option maxRecDepth 100000 in
theorem warpwrightlaw25_examples.calls (k : Nat)  (r : Bool) (w : World) (h : warpwrightlaw25_examples.f k  = some r) :
  Calls Try.prog 10 #[] w fun e w' => e = .returned (.bool r) ∧ Below w.heap.size w w' := by
 have hu43 := Try.underlying43
 have hu28 := Try.underlying28
 have hu31 := Try.underlying31
 have hfd43_1 : ∀ (x0_ x1_ x2_ x3_ : Value) (W_ : World), (Instr.field 43 (.agg #[x0_, x1_, x2_, x3_]) 1).run Try.prog W_ = .ok (x3_) W_ := fun _ _ _ _ _ => by kernel_rfl
 have hfd43_0 : ∀ (x0_ x1_ x2_ x3_ : Value) (W_ : World), (Instr.field 43 (.agg #[x0_, x1_, x2_, x3_]) 0).run Try.prog W_ = .ok (.agg #[x0_, x1_, x2_]) W_ := fun _ _ _ _ _ => by kernel_rfl
 have HB := Aside0.mk (Below.refl w.heap.size w)
 have H : ((warpwrightlaw25_of.f 1 10 4).bind fun bt264 => ((warpwrightlaw25_is.f 1 9 4).bind fun bt268 => (if ((!(bt264.1 == bt268.1) || (!(bt264.2.1 == bt268.2.1) || (!(bt264.2.2.1 == bt268.2.2.1)))) || (!(bt264.2.2.2 == bt268.2.2.2))) = true then (none) else ((warpwrightlaw25_of.f 5 7 4).bind fun bt272 => ((warpwrightlaw25_is.f 5 5 0).bind fun bt276 => (if ((!(bt272.1 == bt276.1) || (!(bt272.2.1 == bt276.2.1) || (!(bt272.2.2.1 == bt276.2.2.1)))) || (!(bt272.2.2.2 == bt276.2.2.2))) = true then (none) else ((warpwrightlaw25_of.f 5 4 1).bind fun bt280 => (if bt280.2.2.2 = 1 then ((warpwrightlaw25_is.f 0 6 2).bind fun bt284 => ((warpwrightlaw25_is.f 1 4 3).bind fun bt288 => ((warpwrightlaw25_add.f k bt284.1 bt284.2.1 bt284.2.2.1 bt288.1 bt288.2.1 bt288.2.2.1).bind fun bt292 => ((warpwrightlaw25_is.f 1 10 1).bind fun bt296 => (if ((!(bt292.1 == bt296.1) || (!(bt292.2.1 == bt296.2.1) || (!(bt292.2.2.1 == bt296.2.2.1)))) || (!(bt292.2.2.2 == bt296.2.2.2))) = true then (none) else ((warpwrightlaw25_is.f 2 4 2).bind fun bt300 => ((warpwrightlaw25_is.f 3 5 2).bind fun bt304 => ((warpwrightlaw25_mul.f k bt300.1 bt300.2.1 bt300.2.2.1 bt304.1 bt304.2.1 bt304.2.2.1).bind fun bt308 => ((warpwrightlaw25_is.f 6 20 2).bind fun bt312 => (if ((!(bt308.1 == bt312.1) || (!(bt308.2.1 == bt312.2.1) || (!(bt308.2.2.1 == bt312.2.2.1)))) || (!(bt308.2.2.2 == bt312.2.2.2))) = true then (none) else ((warpwrightlaw25_is.f 0 20 4).bind fun bt316 => ((warpwrightlaw25_is.f 2 20 6).bind fun bt320 => ((warpwrightlaw25_is.f 0 4 4).bind fun bt326 => ((warpwrightlaw25_is.f 6 6 0).bind fun bt330 => ((span_Join.f k bt326.1 bt326.2.1 bt326.2.2.1 bt330.1 bt330.2.1 bt330.2.2.1).bind fun bt334 => ((warpwrightlaw25_is.f 0 6 2).bind fun bt337 => (if (!(bt334.1 == bt337.1) || (!(bt334.2.1 == bt337.2.1) || (!(bt334.2.2 == bt337.2.2.1)))) = true then (none) else ((warpwrightlaw25_meet.f k bt316.1 bt316.2.1 bt316.2.2.1 bt320.1 bt320.2.1 bt320.2.2.1).bind fun bt341 => ((warpwrightlaw25_is.f 8 20 12).bind fun bt345 => (if ((!(bt341.1 == bt345.1) || (!(bt341.2.1 == bt345.2.1) || (!(bt341.2.2.1 == bt345.2.2.1)))) || (!bt341.2.2.2)) = true then (none) else ((warpwrightlaw25_is.f 1 21 2).bind fun bt349 => ((span_Apart.f k bt316.1 bt316.2.1 bt316.2.2.1 bt349.1 bt349.2.1 bt349.2.2.1).bind fun t353 => (if t353 = true then ((span_Apart.f k bt316.1 bt316.2.1 bt316.2.2.1 bt320.1 bt320.2.1 bt320.2.2.1).bind fun t354 => (if t354 = true then (none) else ((warpwrightlaw25_is.f 5 29 12).bind fun bt355 => ((warpwrightlaw25_mod.f k bt355.1 bt355.2.1 bt355.2.2.1 8).bind fun bt359 => ((warpwrightlaw25_is.f 1 5 4).bind fun bt363 => (if ((!(bt359.1 == bt363.1) || (!(bt359.2.1 == bt363.2.1) || (!(bt359.2.2.1 == bt363.2.2.1)))) || (!(bt359.2.2.2 == bt363.2.2.2))) = true then (none) else ((span_Valid.f k bt316.1 bt316.2.1 bt316.2.2.1).bind fun t367 => (if t367 = true then ((span_Valid.f k 0 5 2).bind fun t368 => (if t368 = true then (none) else ((span_Has.f bt316.1 bt316.2.1 bt316.2.2.1 8).bind fun t369 => (if t369 = true then ((span_Has.f bt316.1 bt316.2.1 bt316.2.2.1 6).bind fun t370 => (if t370 = true then (none) else ((span_Size.f bt316.1 bt316.2.1 bt316.2.2.1).bind fun t371 => (if t371 = 6 then ((warpwrightlaw25_scale.f k bt316.1 bt316.2.1 bt316.2.2.1 1099511627776).bind fun bt372 => (some (bt372.2.2.2 == 2))) else (none))))) else (none))))) else (none))))))))) else (none)))))))))))))))))))))))) else (none))))))))) = some r := h
 clear h
 replace H := Option.bind_eq_some_iff.mp H
 obtain ⟨⟨t264, t265, t266, t267⟩, A10, H⟩ := H
 replace H : ((warpwrightlaw25_is.f 1 9 4).bind fun bt268 => (if ((!(t264 == bt268.1) || (!(t265 == bt268.2.1) || (!(t266 == bt268.2.2.1)))) || (!(t267 == bt268.2.2.2))) = true then (none) else ((warpwrightlaw25_of.f 5 7 4).bind fun bt272 => ((warpwrightlaw25_is.f 5 5 0).bind fun bt276 => (if ((!(bt272.1 == bt276.1) || (!(bt272.2.1 == bt276.2.1) || (!(bt272.2.2.1 == bt276.2.2.1)))) || (!(bt272.2.2.2 == bt276.2.2.2))) = true then (none) else ((warpwrightlaw25_of.f 5 4 1).bind fun bt280 => (if bt280.2.2.2 = 1 then ((warpwrightlaw25_is.f 0 6 2).bind fun bt284 => ((warpwrightlaw25_is.f 1 4 3).bind fun bt288 => ((warpwrightlaw25_add.f k bt284.1 bt284.2.1 bt284.2.2.1 bt288.1 bt288.2.1 bt288.2.2.1).bind fun bt292 => ((warpwrightlaw25_is.f 1 10 1).bind fun bt296 => (if ((!(bt292.1 == bt296.1) || (!(bt292.2.1 == bt296.2.1) || (!(bt292.2.2.1 == bt296.2.2.1)))) || (!(bt292.2.2.2 == bt296.2.2.2))) = true then (none) else ((warpwrightlaw25_is.f 2 4 2).bind fun bt300 => ((warpwrightlaw25_is.f 3 5 2).bind fun bt304 => ((warpwrightlaw25_mul.f k bt300.1 bt300.2.1 bt300.2.2.1 bt304.1 bt304.2.1 bt304.2.2.1).bind fun bt308 => ((warpwrightlaw25_is.f 6 20 2).bind fun bt312 => (if ((!(bt308.1 == bt312.1) || (!(bt308.2.1 == bt312.2.1) || (!(bt308.2.2.1 == bt312.2.2.1)))) || (!(bt308.2.2.2 == bt312.2.2.2))) = true then (none) else ((warpwrightlaw25_is.f 0 20 4).bind fun bt316 => ((warpwrightlaw25_is.f 2 20 6).bind fun bt320 => ((warpwrightlaw25_is.f 0 4 4).bind fun bt326 => ((warpwrightlaw25_is.f 6 6 0).bind fun bt330 => ((span_Join.f k bt326.1 bt326.2.1 bt326.2.2.1 bt330.1 bt330.2.1 bt330.2.2.1).bind fun bt334 => ((warpwrightlaw25_is.f 0 6 2).bind fun bt337 => (if (!(bt334.1 == bt337.1) || (!(bt334.2.1 == bt337.2.1) || (!(bt334.2.2 == bt337.2.2.1)))) = true then (none) else ((warpwrightlaw25_meet.f k bt316.1 bt316.2.1 bt316.2.2.1 bt320.1 bt320.2.1 bt320.2.2.1).bind fun bt341 => ((warpwrightlaw25_is.f 8 20 12).bind fun bt345 => (if ((!(bt341.1 == bt345.1) || (!(bt341.2.1 == bt345.2.1) || (!(bt341.2.2.1 == bt345.2.2.1)))) || (!bt341.2.2.2)) = true then (none) else ((warpwrightlaw25_is.f 1 21 2).bind fun bt349 => ((span_Apart.f k bt316.1 bt316.2.1 bt316.2.2.1 bt349.1 bt349.2.1 bt349.2.2.1).bind fun t353 => (if t353 = true then ((span_Apart.f k bt316.1 bt316.2.1 bt316.2.2.1 bt320.1 bt320.2.1 bt320.2.2.1).bind fun t354 => (if t354 = true then (none) else ((warpwrightlaw25_is.f 5 29 12).bind fun bt355 => ((warpwrightlaw25_mod.f k bt355.1 bt355.2.1 bt355.2.2.1 8).bind fun bt359 => ((warpwrightlaw25_is.f 1 5 4).bind fun bt363 => (if ((!(bt359.1 == bt363.1) || (!(bt359.2.1 == bt363.2.1) || (!(bt359.2.2.1 == bt363.2.2.1)))) || (!(bt359.2.2.2 == bt363.2.2.2))) = true then (none) else ((span_Valid.f k bt316.1 bt316.2.1 bt316.2.2.1).bind fun t367 => (if t367 = true then ((span_Valid.f k 0 5 2).bind fun t368 => (if t368 = true then (none) else ((span_Has.f bt316.1 bt316.2.1 bt316.2.2.1 8).bind fun t369 => (if t369 = true then ((span_Has.f bt316.1 bt316.2.1 bt316.2.2.1 6).bind fun t370 => (if t370 = true then (none) else ((span_Size.f bt316.1 bt316.2.1 bt316.2.2.1).bind fun t371 => (if t371 = 6 then ((warpwrightlaw25_scale.f k bt316.1 bt316.2.1 bt316.2.2.1 1099511627776).bind fun bt372 => (some (bt372.2.2.2 == 2))) else (none))))) else (none))))) else (none))))))))) else (none)))))))))))))))))))))))) else (none)))))))) = some r := H
 have A1 := Aside0.mk A10
 clear A10
 replace H := Option.bind_eq_some_iff.mp H
 obtain ⟨⟨t268, t269, t270, t271⟩, A20, H⟩ := H
 replace H : (if ((!(t264 == t268) || (!(t265 == t269) || (!(t266 == t270)))) || (!(t267 == t271))) = true then (none) else ((warpwrightlaw25_of.f 5 7 4).bind fun bt272 => ((warpwrightlaw25_is.f 5 5 0).bind fun bt276 => (if ((!(bt272.1 == bt276.1) || (!(bt272.2.1 == bt276.2.1) || (!(bt272.2.2.1 == bt276.2.2.1)))) || (!(bt272.2.2.2 == bt276.2.2.2))) = true then (none) else ((warpwrightlaw25_of.f 5 4 1).bind fun bt280 => (if bt280.2.2.2 = 1 then ((warpwrightlaw25_is.f 0 6 2).bind fun bt284 => ((warpwrightlaw25_is.f 1 4 3).bind fun bt288 => ((warpwrightlaw25_add.f k bt284.1 bt284.2.1 bt284.2.2.1 bt288.1 bt288.2.1 bt288.2.2.1).bind fun bt292 => ((warpwrightlaw25_is.f 1 10 1).bind fun bt296 => (if ((!(bt292.1 == bt296.1) || (!(bt292.2.1 == bt296.2.1) || (!(bt292.2.2.1 == bt296.2.2.1)))) || (!(bt292.2.2.2 == bt296.2.2.2))) = true then (none) else ((warpwrightlaw25_is.f 2 4 2).bind fun bt300 => ((warpwrightlaw25_is.f 3 5 2).bind fun bt304 => ((warpwrightlaw25_mul.f k bt300.1 bt300.2.1 bt300.2.2.1 bt304.1 bt304.2.1 bt304.2.2.1).bind fun bt308 => ((warpwrightlaw25_is.f 6 20 2).bind fun bt312 => (if ((!(bt308.1 == bt312.1) || (!(bt308.2.1 == bt312.2.1) || (!(bt308.2.2.1 == bt312.2.2.1)))) || (!(bt308.2.2.2 == bt312.2.2.2))) = true then (none) else ((warpwrightlaw25_is.f 0 20 4).bind fun bt316 => ((warpwrightlaw25_is.f 2 20 6).bind fun bt320 => ((warpwrightlaw25_is.f 0 4 4).bind fun bt326 => ((warpwrightlaw25_is.f 6 6 0).bind fun bt330 => ((span_Join.f k bt326.1 bt326.2.1 bt326.2.2.1 bt330.1 bt330.2.1 bt330.2.2.1).bind fun bt334 => ((warpwrightlaw25_is.f 0 6 2).bind fun bt337 => (if (!(bt334.1 == bt337.1) || (!(bt334.2.1 == bt337.2.1) || (!(bt334.2.2 == bt337.2.2.1)))) = true then (none) else ((warpwrightlaw25_meet.f k bt316.1 bt316.2.1 bt316.2.2.1 bt320.1 bt320.2.1 bt320.2.2.1).bind fun bt341 => ((warpwrightlaw25_is.f 8 20 12).bind fun bt345 => (if ((!(bt341.1 == bt345.1) || (!(bt341.2.1 == bt345.2.1) || (!(bt341.2.2.1 == bt345.2.2.1)))) || (!bt341.2.2.2)) = true then (none) else ((warpwrightlaw25_is.f 1 21 2).bind fun bt349 => ((span_Apart.f k bt316.1 bt316.2.1 bt316.2.2.1 bt349.1 bt349.2.1 bt349.2.2.1).bind fun t353 => (if t353 = true then ((span_Apart.f k bt316.1 bt316.2.1 bt316.2.2.1 bt320.1 bt320.2.1 bt320.2.2.1).bind fun t354 => (if t354 = true then (none) else ((warpwrightlaw25_is.f 5 29 12).bind fun bt355 => ((warpwrightlaw25_mod.f k bt355.1 bt355.2.1 bt355.2.2.1 8).bind fun bt359 => ((warpwrightlaw25_is.f 1 5 4).bind fun bt363 => (if ((!(bt359.1 == bt363.1) || (!(bt359.2.1 == bt363.2.1) || (!(bt359.2.2.1 == bt363.2.2.1)))) || (!(bt359.2.2.2 == bt363.2.2.2))) = true then (none) else ((span_Valid.f k bt316.1 bt316.2.1 bt316.2.2.1).bind fun t367 => (if t367 = true then ((span_Valid.f k 0 5 2).bind fun t368 => (if t368 = true then (none) else ((span_Has.f bt316.1 bt316.2.1 bt316.2.2.1 8).bind fun t369 => (if t369 = true then ((span_Has.f bt316.1 bt316.2.1 bt316.2.2.1 6).bind fun t370 => (if t370 = true then (none) else ((span_Size.f bt316.1 bt316.2.1 bt316.2.2.1).bind fun t371 => (if t371 = 6 then ((warpwrightlaw25_scale.f k bt316.1 bt316.2.1 bt316.2.2.1 1099511627776).bind fun bt372 => (some (bt372.2.2.2 == 2))) else (none))))) else (none))))) else (none))))))))) else (none)))))))))))))))))))))))) else (none))))))) = some r := H
 have A2 := Aside0.mk A20
 clear A20
 by_cases c3 : ((!(t264 == t268) || (!(t265 == t269) || (!(t266 == t270)))) || (!(t267 == t271))) = true
 ·rw [if_pos c3] at H
  exact absurd H (by simp)
 ·rw [if_neg c3] at H
  have c3b0 : ((!(t264 == t268) || (!(t265 == t269) || (!(t266 == t270)))) || (!(t267 == t271))) = false := by first | (simp; done) | simpa using c3
  clear c3
  replace H := Option.bind_eq_some_iff.mp H
  obtain ⟨⟨t272, t273, t274, t275⟩, A40, H⟩ := H
  replace H : ((warpwrightlaw25_is.f 5 5 0).bind fun bt276 => (if ((!(t272 == bt276.1) || (!(t273 == bt276.2.1) || (!(t274 == bt276.2.2.1)))) || (!(t275 == bt276.2.2.2))) = true then (none) else ((warpwrightlaw25_of.f 5 4 1).bind fun bt280 => (if bt280.2.2.2 = 1 then ((warpwrightlaw25_is.f 0 6 2).bind fun bt284 => ((warpwrightlaw25_is.f 1 4 3).bind fun bt288 => ((warpwrightlaw25_add.f k bt284.1 bt284.2.1 bt284.2.2.1 bt288.1 bt288.2.1 bt288.2.2.1).bind fun bt292 => ((warpwrightlaw25_is.f 1 10 1).bind fun bt296 => (if ((!(bt292.1 == bt296.1) || (!(bt292.2.1 == bt296.2.1) || (!(bt292.2.2.1 == bt296.2.2.1)))) || (!(bt292.2.2.2 == bt296.2.2.2))) = true then (none) else ((warpwrightlaw25_is.f 2 4 2).bind fun bt300 => ((warpwrightlaw25_is.f 3 5 2).bind fun bt304 => ((warpwrightlaw25_mul.f k bt300.1 bt300.2.1 bt300.2.2.1 bt304.1 bt304.2.1 bt304.2.2.1).bind fun bt308 => ((warpwrightlaw25_is.f 6 20 2).bind fun bt312 => (if ((!(bt308.1 == bt312.1) || (!(bt308.2.1 == bt312.2.1) || (!(bt308.2.2.1 == bt312.2.2.1)))) || (!(bt308.2.2.2 == bt312.2.2.2))) = true then (none) else ((warpwrightlaw25_is.f 0 20 4).bind fun bt316 => ((warpwrightlaw25_is.f 2 20 6).bind fun bt320 => ((warpwrightlaw25_is.f 0 4 4).bind fun bt326 => ((warpwrightlaw25_is.f 6 6 0).bind fun bt330 => ((span_Join.f k bt326.1 bt326.2.1 bt326.2.2.1 bt330.1 bt330.2.1 bt330.2.2.1).bind fun bt334 => ((warpwrightlaw25_is.f 0 6 2).bind fun bt337 => (if (!(bt334.1 == bt337.1) || (!(bt334.2.1 == bt337.2.1) || (!(bt334.2.2 == bt337.2.2.1)))) = true then (none) else ((warpwrightlaw25_meet.f k bt316.1 bt316.2.1 bt316.2.2.1 bt320.1 bt320.2.1 bt320.2.2.1).bind fun bt341 => ((warpwrightlaw25_is.f 8 20 12).bind fun bt345 => (if ((!(bt341.1 == bt345.1) || (!(bt341.2.1 == bt345.2.1) || (!(bt341.2.2.1 == bt345.2.2.1)))) || (!bt341.2.2.2)) = true then (none) else ((warpwrightlaw25_is.f 1 21 2).bind fun bt349 => ((span_Apart.f k bt316.1 bt316.2.1 bt316.2.2.1 bt349.1 bt349.2.1 bt349.2.2.1).bind fun t353 => (if t353 = true then ((span_Apart.f k bt316.1 bt316.2.1 bt316.2.2.1 bt320.1 bt320.2.1 bt320.2.2.1).bind fun t354 => (if t354 = true then (none) else ((warpwrightlaw25_is.f 5 29 12).bind fun bt355 => ((warpwrightlaw25_mod.f k bt355.1 bt355.2.1 bt355.2.2.1 8).bind fun bt359 => ((warpwrightlaw25_is.f 1 5 4).bind fun bt363 => (if ((!(bt359.1 == bt363.1) || (!(bt359.2.1 == bt363.2.1) || (!(bt359.2.2.1 == bt363.2.2.1)))) || (!(bt359.2.2.2 == bt363.2.2.2))) = true then (none) else ((span_Valid.f k bt316.1 bt316.2.1 bt316.2.2.1).bind fun t367 => (if t367 = true then ((span_Valid.f k 0 5 2).bind fun t368 => (if t368 = true then (none) else ((span_Has.f bt316.1 bt316.2.1 bt316.2.2.1 8).bind fun t369 => (if t369 = true then ((span_Has.f bt316.1 bt316.2.1 bt316.2.2.1 6).bind fun t370 => (if t370 = true then (none) else ((span_Size.f bt316.1 bt316.2.1 bt316.2.2.1).bind fun t371 => (if t371 = 6 then ((warpwrightlaw25_scale.f k bt316.1 bt316.2.1 bt316.2.2.1 1099511627776).bind fun bt372 => (some (bt372.2.2.2 == 2))) else (none))))) else (none))))) else (none))))))))) else (none)))))))))))))))))))))))) else (none))))) = some r := H
  have A4 := Aside0.mk A40
  clear A40
  replace H := Option.bind_eq_some_iff.mp H
  obtain ⟨⟨t276, t277, t278, t279⟩, A50, H⟩ := H
  replace H : (if ((!(t272 == t276) || (!(t273 == t277) || (!(t274 == t278)))) || (!(t275 == t279))) = true then (none) else ((warpwrightlaw25_of.f 5 4 1).bind fun bt280 => (if bt280.2.2.2 = 1 then ((warpwrightlaw25_is.f 0 6 2).bind fun bt284 => ((warpwrightlaw25_is.f 1 4 3).bind fun bt288 => ((warpwrightlaw25_add.f k bt284.1 bt284.2.1 bt284.2.2.1 bt288.1 bt288.2.1 bt288.2.2.1).bind fun bt292 => ((warpwrightlaw25_is.f 1 10 1).bind fun bt296 => (if ((!(bt292.1 == bt296.1) || (!(bt292.2.1 == bt296.2.1) || (!(bt292.2.2.1 == bt296.2.2.1)))) || (!(bt292.2.2.2 == bt296.2.2.2))) = true then (none) else ((warpwrightlaw25_is.f 2 4 2).bind fun bt300 => ((warpwrightlaw25_is.f 3 5 2).bind fun bt304 => ((warpwrightlaw25_mul.f k bt300.1 bt300.2.1 bt300.2.2.1 bt304.1 bt304.2.1 bt304.2.2.1).bind fun bt308 => ((warpwrightlaw25_is.f 6 20 2).bind fun bt312 => (if ((!(bt308.1 == bt312.1) || (!(bt308.2.1 == bt312.2.1) || (!(bt308.2.2.1 == bt312.2.2.1)))) || (!(bt308.2.2.2 == bt312.2.2.2))) = true then (none) else ((warpwrightlaw25_is.f 0 20 4).bind fun bt316 => ((warpwrightlaw25_is.f 2 20 6).bind fun bt320 => ((warpwrightlaw25_is.f 0 4 4).bind fun bt326 => ((warpwrightlaw25_is.f 6 6 0).bind fun bt330 => ((span_Join.f k bt326.1 bt326.2.1 bt326.2.2.1 bt330.1 bt330.2.1 bt330.2.2.1).bind fun bt334 => ((warpwrightlaw25_is.f 0 6 2).bind fun bt337 => (if (!(bt334.1 == bt337.1) || (!(bt334.2.1 == bt337.2.1) || (!(bt334.2.2 == bt337.2.2.1)))) = true then (none) else ((warpwrightlaw25_meet.f k bt316.1 bt316.2.1 bt316.2.2.1 bt320.1 bt320.2.1 bt320.2.2.1).bind fun bt341 => ((warpwrightlaw25_is.f 8 20 12).bind fun bt345 => (if ((!(bt341.1 == bt345.1) || (!(bt341.2.1 == bt345.2.1) || (!(bt341.2.2.1 == bt345.2.2.1)))) || (!bt341.2.2.2)) = true then (none) else ((warpwrightlaw25_is.f 1 21 2).bind fun bt349 => ((span_Apart.f k bt316.1 bt316.2.1 bt316.2.2.1 bt349.1 bt349.2.1 bt349.2.2.1).bind fun t353 => (if t353 = true then ((span_Apart.f k bt316.1 bt316.2.1 bt316.2.2.1 bt320.1 bt320.2.1 bt320.2.2.1).bind fun t354 => (if t354 = true then (none) else ((warpwrightlaw25_is.f 5 29 12).bind fun bt355 => ((warpwrightlaw25_mod.f k bt355.1 bt355.2.1 bt355.2.2.1 8).bind fun bt359 => ((warpwrightlaw25_is.f 1 5 4).bind fun bt363 => (if ((!(bt359.1 == bt363.1) || (!(bt359.2.1 == bt363.2.1) || (!(bt359.2.2.1 == bt363.2.2.1)))) || (!(bt359.2.2.2 == bt363.2.2.2))) = true then (none) else ((span_Valid.f k bt316.1 bt316.2.1 bt316.2.2.1).bind fun t367 => (if t367 = true then ((span_Valid.f k 0 5 2).bind fun t368 => (if t368 = true then (none) else ((span_Has.f bt316.1 bt316.2.1 bt316.2.2.1 8).bind fun t369 => (if t369 = true then ((span_Has.f bt316.1 bt316.2.1 bt316.2.2.1 6).bind fun t370 => (if t370 = true then (none) else ((span_Size.f bt316.1 bt316.2.1 bt316.2.2.1).bind fun t371 => (if t371 = 6 then ((warpwrightlaw25_scale.f k bt316.1 bt316.2.1 bt316.2.2.1 1099511627776).bind fun bt372 => (some (bt372.2.2.2 == 2))) else (none))))) else (none))))) else (none))))))))) else (none)))))))))))))))))))))))) else (none)))) = some r := H
  have A5 := Aside0.mk A50
  clear A50
  by_cases c6 : ((!(t272 == t276) || (!(t273 == t277) || (!(t274 == t278)))) || (!(t275 == t279))) = true
  ·rw [if_pos c6] at H
   exact absurd H (by simp)
  ·rw [if_neg c6] at H
   have c6b0 : ((!(t272 == t276) || (!(t273 == t277) || (!(t274 == t278)))) || (!(t275 == t279))) = false := by first | (simp; done) | simpa using c6
   clear c6
   replace H := Option.bind_eq_some_iff.mp H
   obtain ⟨⟨t280, t281, t282, t283⟩, A70, H⟩ := H
   replace H : (if t283 = 1 then ((warpwrightlaw25_is.f 0 6 2).bind fun bt284 => ((warpwrightlaw25_is.f 1 4 3).bind fun bt288 => ((warpwrightlaw25_add.f k bt284.1 bt284.2.1 bt284.2.2.1 bt288.1 bt288.2.1 bt288.2.2.1).bind fun bt292 => ((warpwrightlaw25_is.f 1 10 1).bind fun bt296 => (if ((!(bt292.1 == bt296.1) || (!(bt292.2.1 == bt296.2.1) || (!(bt292.2.2.1 == bt296.2.2.1)))) || (!(bt292.2.2.2 == bt296.2.2.2))) = true then (none) else ((warpwrightlaw25_is.f 2 4 2).bind fun bt300 => ((warpwrightlaw25_is.f 3 5 2).bind fun bt304 => ((warpwrightlaw25_mul.f k bt300.1 bt300.2.1 bt300.2.2.1 bt304.1 bt304.2.1 bt304.2.2.1).bind fun bt308 => ((warpwrightlaw25_is.f 6 20 2).bind fun bt312 => (if ((!(bt308.1 == bt312.1) || (!(bt308.2.1 == bt312.2.1) || (!(bt308.2.2.1 == bt312.2.2.1)))) || (!(bt308.2.2.2 == bt312.2.2.2))) = true then (none) else ((warpwrightlaw25_is.f 0 20 4).bind fun bt316 => ((warpwrightlaw25_is.f 2 20 6).bind fun bt320 => ((warpwrightlaw25_is.f 0 4 4).bind fun bt326 => ((warpwrightlaw25_is.f 6 6 0).bind fun bt330 => ((span_Join.f k bt326.1 bt326.2.1 bt326.2.2.1 bt330.1 bt330.2.1 bt330.2.2.1).bind fun bt334 => ((warpwrightlaw25_is.f 0 6 2).bind fun bt337 => (if (!(bt334.1 == bt337.1) || (!(bt334.2.1 == bt337.2.1) || (!(bt334.2.2 == bt337.2.2.1)))) = true then (none) else ((warpwrightlaw25_meet.f k bt316.1 bt316.2.1 bt316.2.2.1 bt320.1 bt320.2.1 bt320.2.2.1).bind fun bt341 => ((warpwrightlaw25_is.f 8 20 12).bind fun bt345 => (if ((!(bt341.1 == bt345.1) || (!(bt341.2.1 == bt345.2.1) || (!(bt341.2.2.1 == bt345.2.2.1)))) || (!bt341.2.2.2)) = true then (none) else ((warpwrightlaw25_is.f 1 21 2).bind fun bt349 => ((span_Apart.f k bt316.1 bt316.2.1 bt316.2.2.1 bt349.1 bt349.2.1 bt349.2.2.1).bind fun t353 => (if t353 = true then ((span_Apart.f k bt316.1 bt316.2.1 bt316.2.2.1 bt320.1 bt320.2.1 bt320.2.2.1).bind fun t354 => (if t354 = true then (none) else ((warpwrightlaw25_is.f 5 29 12).bind fun bt355 => ((warpwrightlaw25_mod.f k bt355.1 bt355.2.1 bt355.2.2.1 8).bind fun bt359 => ((warpwrightlaw25_is.f 1 5 4).bind fun bt363 => (if ((!(bt359.1 == bt363.1) || (!(bt359.2.1 == bt363.2.1) || (!(bt359.2.2.1 == bt363.2.2.1)))) || (!(bt359.2.2.2 == bt363.2.2.2))) = true then (none) else ((span_Valid.f k bt316.1 bt316.2.1 bt316.2.2.1).bind fun t367 => (if t367 = true then ((span_Valid.f k 0 5 2).bind fun t368 => (if t368 = true then (none) else ((span_Has.f bt316.1 bt316.2.1 bt316.2.2.1 8).bind fun t369 => (if t369 = true then ((span_Has.f bt316.1 bt316.2.1 bt316.2.2.1 6).bind fun t370 => (if t370 = true then (none) else ((span_Size.f bt316.1 bt316.2.1 bt316.2.2.1).bind fun t371 => (if t371 = 6 then ((warpwrightlaw25_scale.f k bt316.1 bt316.2.1 bt316.2.2.1 1099511627776).bind fun bt372 => (some (bt372.2.2.2 == 2))) else (none))))) else (none))))) else (none))))))))) else (none)))))))))))))))))))))))) else (none)) = some r := H
   have A7 := Aside0.mk A70
   clear A70
   by_cases c8 : t283 = 1
   ·rw [if_pos c8] at H
    have c8b0 : (t283 == 1) = true := beq_iff_eq.mpr c8
    have c8b1 : (t283 != 1) = false := bne_eq_false_iff_eq.mpr c8
    clear c8
    replace H := Option.bind_eq_some_iff.mp H
    obtain ⟨⟨t284, t285, t286, t287⟩, A90, H⟩ := H
    replace H : ((warpwrightlaw25_is.f 1 4 3).bind fun bt288 => ((warpwrightlaw25_add.f k t284 t285 t286 bt288.1 bt288.2.1 bt288.2.2.1).bind fun bt292 => ((warpwrightlaw25_is.f 1 10 1).bind fun bt296 => (if ((!(bt292.1 == bt296.1) || (!(bt292.2.1 == bt296.2.1) || (!(bt292.2.2.1 == bt296.2.2.1)))) || (!(bt292.2.2.2 == bt296.2.2.2))) = true then (none) else ((warpwrightlaw25_is.f 2 4 2).bind fun bt300 => ((warpwrightlaw25_is.f 3 5 2).bind fun bt304 => ((warpwrightlaw25_mul.f k bt300.1 bt300.2.1 bt300.2.2.1 bt304.1 bt304.2.1 bt304.2.2.1).bind fun bt308 => ((warpwrightlaw25_is.f 6 20 2).bind fun bt312 => (if ((!(bt308.1 == bt312.1) || (!(bt308.2.1 == bt312.2.1) || (!(bt308.2.2.1 == bt312.2.2.1)))) || (!(bt308.2.2.2 == bt312.2.2.2))) = true then (none) else ((warpwrightlaw25_is.f 0 20 4).bind fun bt316 => ((warpwrightlaw25_is.f 2 20 6).bind fun bt320 => ((warpwrightlaw25_is.f 0 4 4).bind fun bt326 => ((warpwrightlaw25_is.f 6 6 0).bind fun bt330 => ((span_Join.f k bt326.1 bt326.2.1 bt326.2.2.1 bt330.1 bt330.2.1 bt330.2.2.1).bind fun bt334 => ((warpwrightlaw25_is.f 0 6 2).bind fun bt337 => (if (!(bt334.1 == bt337.1) || (!(bt334.2.1 == bt337.2.1) || (!(bt334.2.2 == bt337.2.2.1)))) = true then (none) else ((warpwrightlaw25_meet.f k bt316.1 bt316.2.1 bt316.2.2.1 bt320.1 bt320.2.1 bt320.2.2.1).bind fun bt341 => ((warpwrightlaw25_is.f 8 20 12).bind fun bt345 => (if ((!(bt341.1 == bt345.1) || (!(bt341.2.1 == bt345.2.1) || (!(bt341.2.2.1 == bt345.2.2.1)))) || (!bt341.2.2.2)) = true then (none) else ((warpwrightlaw25_is.f 1 21 2).bind fun bt349 => ((span_Apart.f k bt316.1 bt316.2.1 bt316.2.2.1 bt349.1 bt349.2.1 bt349.2.2.1).bind fun t353 => (if t353 = true then ((span_Apart.f k bt316.1 bt316.2.1 bt316.2.2.1 bt320.1 bt320.2.1 bt320.2.2.1).bind fun t354 => (if t354 = true then (none) else ((warpwrightlaw25_is.f 5 29 12).bind fun bt355 => ((warpwrightlaw25_mod.f k bt355.1 bt355.2.1 bt355.2.2.1 8).bind fun bt359 => ((warpwrightlaw25_is.f 1 5 4).bind fun bt363 => (if ((!(bt359.1 == bt363.1) || (!(bt359.2.1 == bt363.2.1) || (!(bt359.2.2.1 == bt363.2.2.1)))) || (!(bt359.2.2.2 == bt363.2.2.2))) = true then (none) else ((span_Valid.f k bt316.1 bt316.2.1 bt316.2.2.1).bind fun t367 => (if t367 = true then ((span_Valid.f k 0 5 2).bind fun t368 => (if t368 = true then (none) else ((span_Has.f bt316.1 bt316.2.1 bt316.2.2.1 8).bind fun t369 => (if t369 = true then ((span_Has.f bt316.1 bt316.2.1 bt316.2.2.1 6).bind fun t370 => (if t370 = true then (none) else ((span_Size.f bt316.1 bt316.2.1 bt316.2.2.1).bind fun t371 => (if t371 = 6 then ((warpwrightlaw25_scale.f k bt316.1 bt316.2.1 bt316.2.2.1 1099511627776).bind fun bt372 => (some (bt372.2.2.2 == 2))) else (none))))) else (none))))) else (none))))))))) else (none))))))))))))))))))))))) = some r := H
    have A9 := Aside0.mk A90
    clear A90
    replace H := Option.bind_eq_some_iff.mp H
    obtain ⟨⟨t288, t289, t290, t291⟩, A100, H⟩ := H
    replace H : ((warpwrightlaw25_add.f k t284 t285 t286 t288 t289 t290).bind fun bt292 => ((warpwrightlaw25_is.f 1 10 1).bind fun bt296 => (if ((!(bt292.1 == bt296.1) || (!(bt292.2.1 == bt296.2.1) || (!(bt292.2.2.1 == bt296.2.2.1)))) || (!(bt292.2.2.2 == bt296.2.2.2))) = true then (none) else ((warpwrightlaw25_is.f 2 4 2).bind fun bt300 => ((warpwrightlaw25_is.f 3 5 2).bind fun bt304 => ((warpwrightlaw25_mul.f k bt300.1 bt300.2.1 bt300.2.2.1 bt304.1 bt304.2.1 bt304.2.2.1).bind fun bt308 => ((warpwrightlaw25_is.f 6 20 2).bind fun bt312 => (if ((!(bt308.1 == bt312.1) || (!(bt308.2.1 == bt312.2.1) || (!(bt308.2.2.1 == bt312.2.2.1)))) || (!(bt308.2.2.2 == bt312.2.2.2))) = true then (none) else ((warpwrightlaw25_is.f 0 20 4).bind fun bt316 => ((warpwrightlaw25_is.f 2 20 6).bind fun bt320 => ((warpwrightlaw25_is.f 0 4 4).bind fun bt326 => ((warpwrightlaw25_is.f 6 6 0).bind fun bt330 => ((span_Join.f k bt326.1 bt326.2.1 bt326.2.2.1 bt330.1 bt330.2.1 bt330.2.2.1).bind fun bt334 => ((warpwrightlaw25_is.f 0 6 2).bind fun bt337 => (if (!(bt334.1 == bt337.1) || (!(bt334.2.1 == bt337.2.1) || (!(bt334.2.2 == bt337.2.2.1)))) = true then (none) else ((warpwrightlaw25_meet.f k bt316.1 bt316.2.1 bt316.2.2.1 bt320.1 bt320.2.1 bt320.2.2.1).bind fun bt341 => ((warpwrightlaw25_is.f 8 20 12).bind fun bt345 => (if ((!(bt341.1 == bt345.1) || (!(bt341.2.1 == bt345.2.1) || (!(bt341.2.2.1 == bt345.2.2.1)))) || (!bt341.2.2.2)) = true then (none) else ((warpwrightlaw25_is.f 1 21 2).bind fun bt349 => ((span_Apart.f k bt316.1 bt316.2.1 bt316.2.2.1 bt349.1 bt349.2.1 bt349.2.2.1).bind fun t353 => (if t353 = true then ((span_Apart.f k bt316.1 bt316.2.1 bt316.2.2.1 bt320.1 bt320.2.1 bt320.2.2.1).bind fun t354 => (if t354 = true then (none) else ((warpwrightlaw25_is.f 5 29 12).bind fun bt355 => ((warpwrightlaw25_mod.f k bt355.1 bt355.2.1 bt355.2.2.1 8).bind fun bt359 => ((warpwrightlaw25_is.f 1 5 4).bind fun bt363 => (if ((!(bt359.1 == bt363.1) || (!(bt359.2.1 == bt363.2.1) || (!(bt359.2.2.1 == bt363.2.2.1)))) || (!(bt359.2.2.2 == bt363.2.2.2))) = true then (none) else ((span_Valid.f k bt316.1 bt316.2.1 bt316.2.2.1).bind fun t367 => (if t367 = true then ((span_Valid.f k 0 5 2).bind fun t368 => (if t368 = true then (none) else ((span_Has.f bt316.1 bt316.2.1 bt316.2.2.1 8).bind fun t369 => (if t369 = true then ((span_Has.f bt316.1 bt316.2.1 bt316.2.2.1 6).bind fun t370 => (if t370 = true then (none) else ((span_Size.f bt316.1 bt316.2.1 bt316.2.2.1).bind fun t371 => (if t371 = 6 then ((warpwrightlaw25_scale.f k bt316.1 bt316.2.1 bt316.2.2.1 1099511627776).bind fun bt372 => (some (bt372.2.2.2 == 2))) else (none))))) else (none))))) else (none))))))))) else (none)))))))))))))))))))))) = some r := H
    have A10 := Aside0.mk A100
    clear A100
    replace H := Option.bind_eq_some_iff.mp H
    obtain ⟨⟨t292, t293, t294, t295⟩, A110, H⟩ := H
    replace H : ((warpwrightlaw25_is.f 1 10 1).bind fun bt296 => (if ((!(t292 == bt296.1) || (!(t293 == bt296.2.1) || (!(t294 == bt296.2.2.1)))) || (!(t295 == bt296.2.2.2))) = true then (none) else ((warpwrightlaw25_is.f 2 4 2).bind fun bt300 => ((warpwrightlaw25_is.f 3 5 2).bind fun bt304 => ((warpwrightlaw25_mul.f k bt300.1 bt300.2.1 bt300.2.2.1 bt304.1 bt304.2.1 bt304.2.2.1).bind fun bt308 => ((warpwrightlaw25_is.f 6 20 2).bind fun bt312 => (if ((!(bt308.1 == bt312.1) || (!(bt308.2.1 == bt312.2.1) || (!(bt308.2.2.1 == bt312.2.2.1)))) || (!(bt308.2.2.2 == bt312.2.2.2))) = true then (none) else ((warpwrightlaw25_is.f 0 20 4).bind fun bt316 => ((warpwrightlaw25_is.f 2 20 6).bind fun bt320 => ((warpwrightlaw25_is.f 0 4 4).bind fun bt326 => ((warpwrightlaw25_is.f 6 6 0).bind fun bt330 => ((span_Join.f k bt326.1 bt326.2.1 bt326.2.2.1 bt330.1 bt330.2.1 bt330.2.2.1).bind fun bt334 => ((warpwrightlaw25_is.f 0 6 2).bind fun bt337 => (if (!(bt334.1 == bt337.1) || (!(bt334.2.1 == bt337.2.1) || (!(bt334.2.2 == bt337.2.2.1)))) = true then (none) else ((warpwrightlaw25_meet.f k bt316.1 bt316.2.1 bt316.2.2.1 bt320.1 bt320.2.1 bt320.2.2.1).bind fun bt341 => ((warpwrightlaw25_is.f 8 20 12).bind fun bt345 => (if ((!(bt341.1 == bt345.1) || (!(bt341.2.1 == bt345.2.1) || (!(bt341.2.2.1 == bt345.2.2.1)))) || (!bt341.2.2.2)) = true then (none) else ((warpwrightlaw25_is.f 1 21 2).bind fun bt349 => ((span_Apart.f k bt316.1 bt316.2.1 bt316.2.2.1 bt349.1 bt349.2.1 bt349.2.2.1).bind fun t353 => (if t353 = true then ((span_Apart.f k bt316.1 bt316.2.1 bt316.2.2.1 bt320.1 bt320.2.1 bt320.2.2.1).bind fun t354 => (if t354 = true then (none) else ((warpwrightlaw25_is.f 5 29 12).bind fun bt355 => ((warpwrightlaw25_mod.f k bt355.1 bt355.2.1 bt355.2.2.1 8).bind fun bt359 => ((warpwrightlaw25_is.f 1 5 4).bind fun bt363 => (if ((!(bt359.1 == bt363.1) || (!(bt359.2.1 == bt363.2.1) || (!(bt359.2.2.1 == bt363.2.2.1)))) || (!(bt359.2.2.2 == bt363.2.2.2))) = true then (none) else ((span_Valid.f k bt316.1 bt316.2.1 bt316.2.2.1).bind fun t367 => (if t367 = true then ((span_Valid.f k 0 5 2).bind fun t368 => (if t368 = true then (none) else ((span_Has.f bt316.1 bt316.2.1 bt316.2.2.1 8).bind fun t369 => (if t369 = true then ((span_Has.f bt316.1 bt316.2.1 bt316.2.2.1 6).bind fun t370 => (if t370 = true then (none) else ((span_Size.f bt316.1 bt316.2.1 bt316.2.2.1).bind fun t371 => (if t371 = 6 then ((warpwrightlaw25_scale.f k bt316.1 bt316.2.1 bt316.2.2.1 1099511627776).bind fun bt372 => (some (bt372.2.2.2 == 2))) else (none))))) else (none))))) else (none))))))))) else (none))))))))))))))))))))) = some r := H
    have A11 := Aside0.mk A110
    clear A110
    replace H := Option.bind_eq_some_iff.mp H
    obtain ⟨⟨t296, t297, t298, t299⟩, A120, H⟩ := H
    replace H : (if ((!(t292 == t296) || (!(t293 == t297) || (!(t294 == t298)))) || (!(t295 == t299))) = true then (none) else ((warpwrightlaw25_is.f 2 4 2).bind fun bt300 => ((warpwrightlaw25_is.f 3 5 2).bind fun bt304 => ((warpwrightlaw25_mul.f k bt300.1 bt300.2.1 bt300.2.2.1 bt304.1 bt304.2.1 bt304.2.2.1).bind fun bt308 => ((warpwrightlaw25_is.f 6 20 2).bind fun bt312 => (if ((!(bt308.1 == bt312.1) || (!(bt308.2.1 == bt312.2.1) || (!(bt308.2.2.1 == bt312.2.2.1)))) || (!(bt308.2.2.2 == bt312.2.2.2))) = true then (none) else ((warpwrightlaw25_is.f 0 20 4).bind fun bt316 => ((warpwrightlaw25_is.f 2 20 6).bind fun bt320 => ((warpwrightlaw25_is.f 0 4 4).bind fun bt326 => ((warpwrightlaw25_is.f 6 6 0).bind fun bt330 => ((span_Join.f k bt326.1 bt326.2.1 bt326.2.2.1 bt330.1 bt330.2.1 bt330.2.2.1).bind fun bt334 => ((warpwrightlaw25_is.f 0 6 2).bind fun bt337 => (if (!(bt334.1 == bt337.1) || (!(bt334.2.1 == bt337.2.1) || (!(bt334.2.2 == bt337.2.2.1)))) = true then (none) else ((warpwrightlaw25_meet.f k bt316.1 bt316.2.1 bt316.2.2.1 bt320.1 bt320.2.1 bt320.2.2.1).bind fun bt341 => ((warpwrightlaw25_is.f 8 20 12).bind fun bt345 => (if ((!(bt341.1 == bt345.1) || (!(bt341.2.1 == bt345.2.1) || (!(bt341.2.2.1 == bt345.2.2.1)))) || (!bt341.2.2.2)) = true then (none) else ((warpwrightlaw25_is.f 1 21 2).bind fun bt349 => ((span_Apart.f k bt316.1 bt316.2.1 bt316.2.2.1 bt349.1 bt349.2.1 bt349.2.2.1).bind fun t353 => (if t353 = true then ((span_Apart.f k bt316.1 bt316.2.1 bt316.2.2.1 bt320.1 bt320.2.1 bt320.2.2.1).bind fun t354 => (if t354 = true then (none) else ((warpwrightlaw25_is.f 5 29 12).bind fun bt355 => ((warpwrightlaw25_mod.f k bt355.1 bt355.2.1 bt355.2.2.1 8).bind fun bt359 => ((warpwrightlaw25_is.f 1 5 4).bind fun bt363 => (if ((!(bt359.1 == bt363.1) || (!(bt359.2.1 == bt363.2.1) || (!(bt359.2.2.1 == bt363.2.2.1)))) || (!(bt359.2.2.2 == bt363.2.2.2))) = true then (none) else ((span_Valid.f k bt316.1 bt316.2.1 bt316.2.2.1).bind fun t367 => (if t367 = true then ((span_Valid.f k 0 5 2).bind fun t368 => (if t368 = true then (none) else ((span_Has.f bt316.1 bt316.2.1 bt316.2.2.1 8).bind fun t369 => (if t369 = true then ((span_Has.f bt316.1 bt316.2.1 bt316.2.2.1 6).bind fun t370 => (if t370 = true then (none) else ((span_Size.f bt316.1 bt316.2.1 bt316.2.2.1).bind fun t371 => (if t371 = 6 then ((warpwrightlaw25_scale.f k bt316.1 bt316.2.1 bt316.2.2.1 1099511627776).bind fun bt372 => (some (bt372.2.2.2 == 2))) else (none))))) else (none))))) else (none))))))))) else (none)))))))))))))))))))) = some r := H
    have A12 := Aside0.mk A120
    clear A120
    by_cases c13 : ((!(t292 == t296) || (!(t293 == t297) || (!(t294 == t298)))) || (!(t295 == t299))) = true
    ·rw [if_pos c13] at H
     exact absurd H (by simp)
    ·rw [if_neg c13] at H
     have c13b0 : ((!(t292 == t296) || (!(t293 == t297) || (!(t294 == t298)))) || (!(t295 == t299))) = false := by first | (simp; done) | simpa using c13
     clear c13
     replace H := Option.bind_eq_some_iff.mp H
     obtain ⟨⟨t300, t301, t302, t303⟩, A140, H⟩ := H
     replace H : ((warpwrightlaw25_is.f 3 5 2).bind fun bt304 => ((warpwrightlaw25_mul.f k t300 t301 t302 bt304.1 bt304.2.1 bt304.2.2.1).bind fun bt308 => ((warpwrightlaw25_is.f 6 20 2).bind fun bt312 => (if ((!(bt308.1 == bt312.1) || (!(bt308.2.1 == bt312.2.1) || (!(bt308.2.2.1 == bt312.2.2.1)))) || (!(bt308.2.2.2 == bt312.2.2.2))) = true then (none) else ((warpwrightlaw25_is.f 0 20 4).bind fun bt316 => ((warpwrightlaw25_is.f 2 20 6).bind fun bt320 => ((warpwrightlaw25_is.f 0 4 4).bind fun bt326 => ((warpwrightlaw25_is.f 6 6 0).bind fun bt330 => ((span_Join.f k bt326.1 bt326.2.1 bt326.2.2.1 bt330.1 bt330.2.1 bt330.2.2.1).bind fun bt334 => ((warpwrightlaw25_is.f 0 6 2).bind fun bt337 => (if (!(bt334.1 == bt337.1) || (!(bt334.2.1 == bt337.2.1) || (!(bt334.2.2 == bt337.2.2.1)))) = true then (none) else ((warpwrightlaw25_meet.f k bt316.1 bt316.2.1 bt316.2.2.1 bt320.1 bt320.2.1 bt320.2.2.1).bind fun bt341 => ((warpwrightlaw25_is.f 8 20 12).bind fun bt345 => (if ((!(bt341.1 == bt345.1) || (!(bt341.2.1 == bt345.2.1) || (!(bt341.2.2.1 == bt345.2.2.1)))) || (!bt341.2.2.2)) = true then (none) else ((warpwrightlaw25_is.f 1 21 2).bind fun bt349 => ((span_Apart.f k bt316.1 bt316.2.1 bt316.2.2.1 bt349.1 bt349.2.1 bt349.2.2.1).bind fun t353 => (if t353 = true then ((span_Apart.f k bt316.1 bt316.2.1 bt316.2.2.1 bt320.1 bt320.2.1 bt320.2.2.1).bind fun t354 => (if t354 = true then (none) else ((warpwrightlaw25_is.f 5 29 12).bind fun bt355 => ((warpwrightlaw25_mod.f k bt355.1 bt355.2.1 bt355.2.2.1 8).bind fun bt359 => ((warpwrightlaw25_is.f 1 5 4).bind fun bt363 => (if ((!(bt359.1 == bt363.1) || (!(bt359.2.1 == bt363.2.1) || (!(bt359.2.2.1 == bt363.2.2.1)))) || (!(bt359.2.2.2 == bt363.2.2.2))) = true then (none) else ((span_Valid.f k bt316.1 bt316.2.1 bt316.2.2.1).bind fun t367 => (if t367 = true then ((span_Valid.f k 0 5 2).bind fun t368 => (if t368 = true then (none) else ((span_Has.f bt316.1 bt316.2.1 bt316.2.2.1 8).bind fun t369 => (if t369 = true then ((span_Has.f bt316.1 bt316.2.1 bt316.2.2.1 6).bind fun t370 => (if t370 = true then (none) else ((span_Size.f bt316.1 bt316.2.1 bt316.2.2.1).bind fun t371 => (if t371 = 6 then ((warpwrightlaw25_scale.f k bt316.1 bt316.2.1 bt316.2.2.1 1099511627776).bind fun bt372 => (some (bt372.2.2.2 == 2))) else (none))))) else (none))))) else (none))))))))) else (none)))))))))))))))))) = some r := H
     have A14 := Aside0.mk A140
     clear A140
     replace H := Option.bind_eq_some_iff.mp H
     obtain ⟨⟨t304, t305, t306, t307⟩, A150, H⟩ := H
     replace H : ((warpwrightlaw25_mul.f k t300 t301 t302 t304 t305 t306).bind fun bt308 => ((warpwrightlaw25_is.f 6 20 2).bind fun bt312 => (if ((!(bt308.1 == bt312.1) || (!(bt308.2.1 == bt312.2.1) || (!(bt308.2.2.1 == bt312.2.2.1)))) || (!(bt308.2.2.2 == bt312.2.2.2))) = true then (none) else ((warpwrightlaw25_is.f 0 20 4).bind fun bt316 => ((warpwrightlaw25_is.f 2 20 6).bind fun bt320 => ((warpwrightlaw25_is.f 0 4 4).bind fun bt326 => ((warpwrightlaw25_is.f 6 6 0).bind fun bt330 => ((span_Join.f k bt326.1 bt326.2.1 bt326.2.2.1 bt330.1 bt330.2.1 bt330.2.2.1).bind fun bt334 => ((warpwrightlaw25_is.f 0 6 2).bind fun bt337 => (if (!(bt334.1 == bt337.1) || (!(bt334.2.1 == bt337.2.1) || (!(bt334.2.2 == bt337.2.2.1)))) = true then (none) else ((warpwrightlaw25_meet.f k bt316.1 bt316.2.1 bt316.2.2.1 bt320.1 bt320.2.1 bt320.2.2.1).bind fun bt341 => ((warpwrightlaw25_is.f 8 20 12).bind fun bt345 => (if ((!(bt341.1 == bt345.1) || (!(bt341.2.1 == bt345.2.1) || (!(bt341.2.2.1 == bt345.2.2.1)))) || (!bt341.2.2.2)) = true then (none) else ((warpwrightlaw25_is.f 1 21 2).bind fun bt349 => ((span_Apart.f k bt316.1 bt316.2.1 bt316.2.2.1 bt349.1 bt349.2.1 bt349.2.2.1).bind fun t353 => (if t353 = true then ((span_Apart.f k bt316.1 bt316.2.1 bt316.2.2.1 bt320.1 bt320.2.1 bt320.2.2.1).bind fun t354 => (if t354 = true then (none) else ((warpwrightlaw25_is.f 5 29 12).bind fun bt355 => ((warpwrightlaw25_mod.f k bt355.1 bt355.2.1 bt355.2.2.1 8).bind fun bt359 => ((warpwrightlaw25_is.f 1 5 4).bind fun bt363 => (if ((!(bt359.1 == bt363.1) || (!(bt359.2.1 == bt363.2.1) || (!(bt359.2.2.1 == bt363.2.2.1)))) || (!(bt359.2.2.2 == bt363.2.2.2))) = true then (none) else ((span_Valid.f k bt316.1 bt316.2.1 bt316.2.2.1).bind fun t367 => (if t367 = true then ((span_Valid.f k 0 5 2).bind fun t368 => (if t368 = true then (none) else ((span_Has.f bt316.1 bt316.2.1 bt316.2.2.1 8).bind fun t369 => (if t369 = true then ((span_Has.f bt316.1 bt316.2.1 bt316.2.2.1 6).bind fun t370 => (if t370 = true then (none) else ((span_Size.f bt316.1 bt316.2.1 bt316.2.2.1).bind fun t371 => (if t371 = 6 then ((warpwrightlaw25_scale.f k bt316.1 bt316.2.1 bt316.2.2.1 1099511627776).bind fun bt372 => (some (bt372.2.2.2 == 2))) else (none))))) else (none))))) else (none))))))))) else (none))))))))))))))))) = some r := H
     have A15 := Aside0.mk A150
     clear A150
     replace H := Option.bind_eq_some_iff.mp H
     obtain ⟨⟨t308, t309, t310, t311⟩, A160, H⟩ := H
     replace H : ((warpwrightlaw25_is.f 6 20 2).bind fun bt312 => (if ((!(t308 == bt312.1) || (!(t309 == bt312.2.1) || (!(t310 == bt312.2.2.1)))) || (!(t311 == bt312.2.2.2))) = true then (none) else ((warpwrightlaw25_is.f 0 20 4).bind fun bt316 => ((warpwrightlaw25_is.f 2 20 6).bind fun bt320 => ((warpwrightlaw25_is.f 0 4 4).bind fun bt326 => ((warpwrightlaw25_is.f 6 6 0).bind fun bt330 => ((span_Join.f k bt326.1 bt326.2.1 bt326.2.2.1 bt330.1 bt330.2.1 bt330.2.2.1).bind fun bt334 => ((warpwrightlaw25_is.f 0 6 2).bind fun bt337 => (if (!(bt334.1 == bt337.1) || (!(bt334.2.1 == bt337.2.1) || (!(bt334.2.2 == bt337.2.2.1)))) = true then (none) else ((warpwrightlaw25_meet.f k bt316.1 bt316.2.1 bt316.2.2.1 bt320.1 bt320.2.1 bt320.2.2.1).bind fun bt341 => ((warpwrightlaw25_is.f 8 20 12).bind fun bt345 => (if ((!(bt341.1 == bt345.1) || (!(bt341.2.1 == bt345.2.1) || (!(bt341.2.2.1 == bt345.2.2.1)))) || (!bt341.2.2.2)) = true then (none) else ((warpwrightlaw25_is.f 1 21 2).bind fun bt349 => ((span_Apart.f k bt316.1 bt316.2.1 bt316.2.2.1 bt349.1 bt349.2.1 bt349.2.2.1).bind fun t353 => (if t353 = true then ((span_Apart.f k bt316.1 bt316.2.1 bt316.2.2.1 bt320.1 bt320.2.1 bt320.2.2.1).bind fun t354 => (if t354 = true then (none) else ((warpwrightlaw25_is.f 5 29 12).bind fun bt355 => ((warpwrightlaw25_mod.f k bt355.1 bt355.2.1 bt355.2.2.1 8).bind fun bt359 => ((warpwrightlaw25_is.f 1 5 4).bind fun bt363 => (if ((!(bt359.1 == bt363.1) || (!(bt359.2.1 == bt363.2.1) || (!(bt359.2.2.1 == bt363.2.2.1)))) || (!(bt359.2.2.2 == bt363.2.2.2))) = true then (none) else ((span_Valid.f k bt316.1 bt316.2.1 bt316.2.2.1).bind fun t367 => (if t367 = true then ((span_Valid.f k 0 5 2).bind fun t368 => (if t368 = true then (none) else ((span_Has.f bt316.1 bt316.2.1 bt316.2.2.1 8).bind fun t369 => (if t369 = true then ((span_Has.f bt316.1 bt316.2.1 bt316.2.2.1 6).bind fun t370 => (if t370 = true then (none) else ((span_Size.f bt316.1 bt316.2.1 bt316.2.2.1).bind fun t371 => (if t371 = 6 then ((warpwrightlaw25_scale.f k bt316.1 bt316.2.1 bt316.2.2.1 1099511627776).bind fun bt372 => (some (bt372.2.2.2 == 2))) else (none))))) else (none))))) else (none))))))))) else (none)))))))))))))))) = some r := H
     have A16 := Aside0.mk A160
     clear A160
     replace H := Option.bind_eq_some_iff.mp H
     obtain ⟨⟨t312, t313, t314, t315⟩, A170, H⟩ := H
     replace H : (if ((!(t308 == t312) || (!(t309 == t313) || (!(t310 == t314)))) || (!(t311 == t315))) = true then (none) else ((warpwrightlaw25_is.f 0 20 4).bind fun bt316 => ((warpwrightlaw25_is.f 2 20 6).bind fun bt320 => ((warpwrightlaw25_is.f 0 4 4).bind fun bt326 => ((warpwrightlaw25_is.f 6 6 0).bind fun bt330 => ((span_Join.f k bt326.1 bt326.2.1 bt326.2.2.1 bt330.1 bt330.2.1 bt330.2.2.1).bind fun bt334 => ((warpwrightlaw25_is.f 0 6 2).bind fun bt337 => (if (!(bt334.1 == bt337.1) || (!(bt334.2.1 == bt337.2.1) || (!(bt334.2.2 == bt337.2.2.1)))) = true then (none) else ((warpwrightlaw25_meet.f k bt316.1 bt316.2.1 bt316.2.2.1 bt320.1 bt320.2.1 bt320.2.2.1).bind fun bt341 => ((warpwrightlaw25_is.f 8 20 12).bind fun bt345 => (if ((!(bt341.1 == bt345.1) || (!(bt341.2.1 == bt345.2.1) || (!(bt341.2.2.1 == bt345.2.2.1)))) || (!bt341.2.2.2)) = true then (none) else ((warpwrightlaw25_is.f 1 21 2).bind fun bt349 => ((span_Apart.f k bt316.1 bt316.2.1 bt316.2.2.1 bt349.1 bt349.2.1 bt349.2.2.1).bind fun t353 => (if t353 = true then ((span_Apart.f k bt316.1 bt316.2.1 bt316.2.2.1 bt320.1 bt320.2.1 bt320.2.2.1).bind fun t354 => (if t354 = true then (none) else ((warpwrightlaw25_is.f 5 29 12).bind fun bt355 => ((warpwrightlaw25_mod.f k bt355.1 bt355.2.1 bt355.2.2.1 8).bind fun bt359 => ((warpwrightlaw25_is.f 1 5 4).bind fun bt363 => (if ((!(bt359.1 == bt363.1) || (!(bt359.2.1 == bt363.2.1) || (!(bt359.2.2.1 == bt363.2.2.1)))) || (!(bt359.2.2.2 == bt363.2.2.2))) = true then (none) else ((span_Valid.f k bt316.1 bt316.2.1 bt316.2.2.1).bind fun t367 => (if t367 = true then ((span_Valid.f k 0 5 2).bind fun t368 => (if t368 = true then (none) else ((span_Has.f bt316.1 bt316.2.1 bt316.2.2.1 8).bind fun t369 => (if t369 = true then ((span_Has.f bt316.1 bt316.2.1 bt316.2.2.1 6).bind fun t370 => (if t370 = true then (none) else ((span_Size.f bt316.1 bt316.2.1 bt316.2.2.1).bind fun t371 => (if t371 = 6 then ((warpwrightlaw25_scale.f k bt316.1 bt316.2.1 bt316.2.2.1 1099511627776).bind fun bt372 => (some (bt372.2.2.2 == 2))) else (none))))) else (none))))) else (none))))))))) else (none))))))))))))))) = some r := H
     have A17 := Aside0.mk A170
     clear A170
     by_cases c18 : ((!(t308 == t312) || (!(t309 == t313) || (!(t310 == t314)))) || (!(t311 == t315))) = true
     ·rw [if_pos c18] at H
      exact absurd H (by simp)
     ·rw [if_neg c18] at H
      have c18b0 : ((!(t308 == t312) || (!(t309 == t313) || (!(t310 == t314)))) || (!(t311 == t315))) = false := by first | (simp; done) | simpa using c18
      clear c18
      replace H := Option.bind_eq_some_iff.mp H
      obtain ⟨⟨t316, t317, t318, t319⟩, A190, H⟩ := H
      replace H : ((warpwrightlaw25_is.f 2 20 6).bind fun bt320 => ((warpwrightlaw25_is.f 0 4 4).bind fun bt326 => ((warpwrightlaw25_is.f 6 6 0).bind fun bt330 => ((span_Join.f k bt326.1 bt326.2.1 bt326.2.2.1 bt330.1 bt330.2.1 bt330.2.2.1).bind fun bt334 => ((warpwrightlaw25_is.f 0 6 2).bind fun bt337 => (if (!(bt334.1 == bt337.1) || (!(bt334.2.1 == bt337.2.1) || (!(bt334.2.2 == bt337.2.2.1)))) = true then (none) else ((warpwrightlaw25_meet.f k t316 t317 t318 bt320.1 bt320.2.1 bt320.2.2.1).bind fun bt341 => ((warpwrightlaw25_is.f 8 20 12).bind fun bt345 => (if ((!(bt341.1 == bt345.1) || (!(bt341.2.1 == bt345.2.1) || (!(bt341.2.2.1 == bt345.2.2.1)))) || (!bt341.2.2.2)) = true then (none) else ((warpwrightlaw25_is.f 1 21 2).bind fun bt349 => ((span_Apart.f k t316 t317 t318 bt349.1 bt349.2.1 bt349.2.2.1).bind fun t353 => (if t353 = true then ((span_Apart.f k t316 t317 t318 bt320.1 bt320.2.1 bt320.2.2.1).bind fun t354 => (if t354 = true then (none) else ((warpwrightlaw25_is.f 5 29 12).bind fun bt355 => ((warpwrightlaw25_mod.f k bt355.1 bt355.2.1 bt355.2.2.1 8).bind fun bt359 => ((warpwrightlaw25_is.f 1 5 4).bind fun bt363 => (if ((!(bt359.1 == bt363.1) || (!(bt359.2.1 == bt363.2.1) || (!(bt359.2.2.1 == bt363.2.2.1)))) || (!(bt359.2.2.2 == bt363.2.2.2))) = true then (none) else ((span_Valid.f k t316 t317 t318).bind fun t367 => (if t367 = true then ((span_Valid.f k 0 5 2).bind fun t368 => (if t368 = true then (none) else ((span_Has.f t316 t317 t318 8).bind fun t369 => (if t369 = true then ((span_Has.f t316 t317 t318 6).bind fun t370 => (if t370 = true then (none) else ((span_Size.f t316 t317 t318).bind fun t371 => (if t371 = 6 then ((warpwrightlaw25_scale.f k t316 t317 t318 1099511627776).bind fun bt372 => (some (bt372.2.2.2 == 2))) else (none))))) else (none))))) else (none))))))))) else (none))))))))))))) = some r := H
      have A19 := Aside0.mk A190
      clear A190
      replace H := Option.bind_eq_some_iff.mp H
      obtain ⟨⟨t320, t321, t322, t323⟩, A200, H⟩ := H
      replace H : ((warpwrightlaw25_is.f 0 4 4).bind fun bt326 => ((warpwrightlaw25_is.f 6 6 0).bind fun bt330 => ((span_Join.f k bt326.1 bt326.2.1 bt326.2.2.1 bt330.1 bt330.2.1 bt330.2.2.1).bind fun bt334 => ((warpwrightlaw25_is.f 0 6 2).bind fun bt337 => (if (!(bt334.1 == bt337.1) || (!(bt334.2.1 == bt337.2.1) || (!(bt334.2.2 == bt337.2.2.1)))) = true then (none) else ((warpwrightlaw25_meet.f k t316 t317 t318 t320 t321 t322).bind fun bt341 => ((warpwrightlaw25_is.f 8 20 12).bind fun bt345 => (if ((!(bt341.1 == bt345.1) || (!(bt341.2.1 == bt345.2.1) || (!(bt341.2.2.1 == bt345.2.2.1)))) || (!bt341.2.2.2)) = true then (none) else ((warpwrightlaw25_is.f 1 21 2).bind fun bt349 => ((span_Apart.f k t316 t317 t318 bt349.1 bt349.2.1 bt349.2.2.1).bind fun t353 => (if t353 = true then ((span_Apart.f k t316 t317 t318 t320 t321 t322).bind fun t354 => (if t354 = true then (none) else ((warpwrightlaw25_is.f 5 29 12).bind fun bt355 => ((warpwrightlaw25_mod.f k bt355.1 bt355.2.1 bt355.2.2.1 8).bind fun bt359 => ((warpwrightlaw25_is.f 1 5 4).bind fun bt363 => (if ((!(bt359.1 == bt363.1) || (!(bt359.2.1 == bt363.2.1) || (!(bt359.2.2.1 == bt363.2.2.1)))) || (!(bt359.2.2.2 == bt363.2.2.2))) = true then (none) else ((span_Valid.f k t316 t317 t318).bind fun t367 => (if t367 = true then ((span_Valid.f k 0 5 2).bind fun t368 => (if t368 = true then (none) else ((span_Has.f t316 t317 t318 8).bind fun t369 => (if t369 = true then ((span_Has.f t316 t317 t318 6).bind fun t370 => (if t370 = true then (none) else ((span_Size.f t316 t317 t318).bind fun t371 => (if t371 = 6 then ((warpwrightlaw25_scale.f k t316 t317 t318 1099511627776).bind fun bt372 => (some (bt372.2.2.2 == 2))) else (none))))) else (none))))) else (none))))))))) else (none)))))))))))) = some r := H
      have A20 := Aside0.mk A200
      clear A200
      replace H := Option.bind_eq_some_iff.mp H
      obtain ⟨⟨t326, t327, t328, t329⟩, A210, H⟩ := H
      replace H : ((warpwrightlaw25_is.f 6 6 0).bind fun bt330 => ((span_Join.f k t326 t327 t328 bt330.1 bt330.2.1 bt330.2.2.1).bind fun bt334 => ((warpwrightlaw25_is.f 0 6 2).bind fun bt337 => (if (!(bt334.1 == bt337.1) || (!(bt334.2.1 == bt337.2.1) || (!(bt334.2.2 == bt337.2.2.1)))) = true then (none) else ((warpwrightlaw25_meet.f k t316 t317 t318 t320 t321 t322).bind fun bt341 => ((warpwrightlaw25_is.f 8 20 12).bind fun bt345 => (if ((!(bt341.1 == bt345.1) || (!(bt341.2.1 == bt345.2.1) || (!(bt341.2.2.1 == bt345.2.2.1)))) || (!bt341.2.2.2)) = true then (none) else ((warpwrightlaw25_is.f 1 21 2).bind fun bt349 => ((span_Apart.f k t316 t317 t318 bt349.1 bt349.2.1 bt349.2.2.1).bind fun t353 => (if t353 = true then ((span_Apart.f k t316 t317 t318 t320 t321 t322).bind fun t354 => (if t354 = true then (none) else ((warpwrightlaw25_is.f 5 29 12).bind fun bt355 => ((warpwrightlaw25_mod.f k bt355.1 bt355.2.1 bt355.2.2.1 8).bind fun bt359 => ((warpwrightlaw25_is.f 1 5 4).bind fun bt363 => (if ((!(bt359.1 == bt363.1) || (!(bt359.2.1 == bt363.2.1) || (!(bt359.2.2.1 == bt363.2.2.1)))) || (!(bt359.2.2.2 == bt363.2.2.2))) = true then (none) else ((span_Valid.f k t316 t317 t318).bind fun t367 => (if t367 = true then ((span_Valid.f k 0 5 2).bind fun t368 => (if t368 = true then (none) else ((span_Has.f t316 t317 t318 8).bind fun t369 => (if t369 = true then ((span_Has.f t316 t317 t318 6).bind fun t370 => (if t370 = true then (none) else ((span_Size.f t316 t317 t318).bind fun t371 => (if t371 = 6 then ((warpwrightlaw25_scale.f k t316 t317 t318 1099511627776).bind fun bt372 => (some (bt372.2.2.2 == 2))) else (none))))) else (none))))) else (none))))))))) else (none))))))))))) = some r := H
      have A21 := Aside0.mk A210
      clear A210
      replace H := Option.bind_eq_some_iff.mp H
      obtain ⟨⟨t330, t331, t332, t333⟩, A220, H⟩ := H
      replace H : ((span_Join.f k t326 t327 t328 t330 t331 t332).bind fun bt334 => ((warpwrightlaw25_is.f 0 6 2).bind fun bt337 => (if (!(bt334.1 == bt337.1) || (!(bt334.2.1 == bt337.2.1) || (!(bt334.2.2 == bt337.2.2.1)))) = true then (none) else ((warpwrightlaw25_meet.f k t316 t317 t318 t320 t321 t322).bind fun bt341 => ((warpwrightlaw25_is.f 8 20 12).bind fun bt345 => (if ((!(bt341.1 == bt345.1) || (!(bt341.2.1 == bt345.2.1) || (!(bt341.2.2.1 == bt345.2.2.1)))) || (!bt341.2.2.2)) = true then (none) else ((warpwrightlaw25_is.f 1 21 2).bind fun bt349 => ((span_Apart.f k t316 t317 t318 bt349.1 bt349.2.1 bt349.2.2.1).bind fun t353 => (if t353 = true then ((span_Apart.f k t316 t317 t318 t320 t321 t322).bind fun t354 => (if t354 = true then (none) else ((warpwrightlaw25_is.f 5 29 12).bind fun bt355 => ((warpwrightlaw25_mod.f k bt355.1 bt355.2.1 bt355.2.2.1 8).bind fun bt359 => ((warpwrightlaw25_is.f 1 5 4).bind fun bt363 => (if ((!(bt359.1 == bt363.1) || (!(bt359.2.1 == bt363.2.1) || (!(bt359.2.2.1 == bt363.2.2.1)))) || (!(bt359.2.2.2 == bt363.2.2.2))) = true then (none) else ((span_Valid.f k t316 t317 t318).bind fun t367 => (if t367 = true then ((span_Valid.f k 0 5 2).bind fun t368 => (if t368 = true then (none) else ((span_Has.f t316 t317 t318 8).bind fun t369 => (if t369 = true then ((span_Has.f t316 t317 t318 6).bind fun t370 => (if t370 = true then (none) else ((span_Size.f t316 t317 t318).bind fun t371 => (if t371 = 6 then ((warpwrightlaw25_scale.f k t316 t317 t318 1099511627776).bind fun bt372 => (some (bt372.2.2.2 == 2))) else (none))))) else (none))))) else (none))))))))) else (none)))))))))) = some r := H
      have A22 := Aside0.mk A220
      clear A220
      replace H := Option.bind_eq_some_iff.mp H
      obtain ⟨⟨t334, t335, t336⟩, A230, H⟩ := H
      replace H : ((warpwrightlaw25_is.f 0 6 2).bind fun bt337 => (if (!(t334 == bt337.1) || (!(t335 == bt337.2.1) || (!(t336 == bt337.2.2.1)))) = true then (none) else ((warpwrightlaw25_meet.f k t316 t317 t318 t320 t321 t322).bind fun bt341 => ((warpwrightlaw25_is.f 8 20 12).bind fun bt345 => (if ((!(bt341.1 == bt345.1) || (!(bt341.2.1 == bt345.2.1) || (!(bt341.2.2.1 == bt345.2.2.1)))) || (!bt341.2.2.2)) = true then (none) else ((warpwrightlaw25_is.f 1 21 2).bind fun bt349 => ((span_Apart.f k t316 t317 t318 bt349.1 bt349.2.1 bt349.2.2.1).bind fun t353 => (if t353 = true then ((span_Apart.f k t316 t317 t318 t320 t321 t322).bind fun t354 => (if t354 = true then (none) else ((warpwrightlaw25_is.f 5 29 12).bind fun bt355 => ((warpwrightlaw25_mod.f k bt355.1 bt355.2.1 bt355.2.2.1 8).bind fun bt359 => ((warpwrightlaw25_is.f 1 5 4).bind fun bt363 => (if ((!(bt359.1 == bt363.1) || (!(bt359.2.1 == bt363.2.1) || (!(bt359.2.2.1 == bt363.2.2.1)))) || (!(bt359.2.2.2 == bt363.2.2.2))) = true then (none) else ((span_Valid.f k t316 t317 t318).bind fun t367 => (if t367 = true then ((span_Valid.f k 0 5 2).bind fun t368 => (if t368 = true then (none) else ((span_Has.f t316 t317 t318 8).bind fun t369 => (if t369 = true then ((span_Has.f t316 t317 t318 6).bind fun t370 => (if t370 = true then (none) else ((span_Size.f t316 t317 t318).bind fun t371 => (if t371 = 6 then ((warpwrightlaw25_scale.f k t316 t317 t318 1099511627776).bind fun bt372 => (some (bt372.2.2.2 == 2))) else (none))))) else (none))))) else (none))))))))) else (none))))))))) = some r := H
      have A23 := Aside0.mk A230
      clear A230
      replace H := Option.bind_eq_some_iff.mp H
      obtain ⟨⟨t337, t338, t339, t340⟩, A240, H⟩ := H
      replace H : (if (!(t334 == t337) || (!(t335 == t338) || (!(t336 == t339)))) = true then (none) else ((warpwrightlaw25_meet.f k t316 t317 t318 t320 t321 t322).bind fun bt341 => ((warpwrightlaw25_is.f 8 20 12).bind fun bt345 => (if ((!(bt341.1 == bt345.1) || (!(bt341.2.1 == bt345.2.1) || (!(bt341.2.2.1 == bt345.2.2.1)))) || (!bt341.2.2.2)) = true then (none) else ((warpwrightlaw25_is.f 1 21 2).bind fun bt349 => ((span_Apart.f k t316 t317 t318 bt349.1 bt349.2.1 bt349.2.2.1).bind fun t353 => (if t353 = true then ((span_Apart.f k t316 t317 t318 t320 t321 t322).bind fun t354 => (if t354 = true then (none) else ((warpwrightlaw25_is.f 5 29 12).bind fun bt355 => ((warpwrightlaw25_mod.f k bt355.1 bt355.2.1 bt355.2.2.1 8).bind fun bt359 => ((warpwrightlaw25_is.f 1 5 4).bind fun bt363 => (if ((!(bt359.1 == bt363.1) || (!(bt359.2.1 == bt363.2.1) || (!(bt359.2.2.1 == bt363.2.2.1)))) || (!(bt359.2.2.2 == bt363.2.2.2))) = true then (none) else ((span_Valid.f k t316 t317 t318).bind fun t367 => (if t367 = true then ((span_Valid.f k 0 5 2).bind fun t368 => (if t368 = true then (none) else ((span_Has.f t316 t317 t318 8).bind fun t369 => (if t369 = true then ((span_Has.f t316 t317 t318 6).bind fun t370 => (if t370 = true then (none) else ((span_Size.f t316 t317 t318).bind fun t371 => (if t371 = 6 then ((warpwrightlaw25_scale.f k t316 t317 t318 1099511627776).bind fun bt372 => (some (bt372.2.2.2 == 2))) else (none))))) else (none))))) else (none))))))))) else (none)))))))) = some r := H
      have A24 := Aside0.mk A240
      clear A240
      by_cases c25 : (!(t334 == t337) || (!(t335 == t338) || (!(t336 == t339)))) = true
      ·rw [if_pos c25] at H
       have c25b0 : (!(t334 == t337) || (!(t335 == t338) || (!(t336 == t339)))) = true := c25
       clear c25
       exact absurd H (by simp)
      ·rw [if_neg c25] at H
       have c25b0 : (!(t334 == t337) || (!(t335 == t338) || (!(t336 == t339)))) = false := by first | (simp; done) | simpa using c25
       clear c25
       replace H := Option.bind_eq_some_iff.mp H
       obtain ⟨⟨t341, t342, t343, t344⟩, A260, H⟩ := H
       replace H : ((warpwrightlaw25_is.f 8 20 12).bind fun bt345 => (if ((!(t341 == bt345.1) || (!(t342 == bt345.2.1) || (!(t343 == bt345.2.2.1)))) || (!t344)) = true then (none) else ((warpwrightlaw25_is.f 1 21 2).bind fun bt349 => ((span_Apart.f k t316 t317 t318 bt349.1 bt349.2.1 bt349.2.2.1).bind fun t353 => (if t353 = true then ((span_Apart.f k t316 t317 t318 t320 t321 t322).bind fun t354 => (if t354 = true then (none) else ((warpwrightlaw25_is.f 5 29 12).bind fun bt355 => ((warpwrightlaw25_mod.f k bt355.1 bt355.2.1 bt355.2.2.1 8).bind fun bt359 => ((warpwrightlaw25_is.f 1 5 4).bind fun bt363 => (if ((!(bt359.1 == bt363.1) || (!(bt359.2.1 == bt363.2.1) || (!(bt359.2.2.1 == bt363.2.2.1)))) || (!(bt359.2.2.2 == bt363.2.2.2))) = true then (none) else ((span_Valid.f k t316 t317 t318).bind fun t367 => (if t367 = true then ((span_Valid.f k 0 5 2).bind fun t368 => (if t368 = true then (none) else ((span_Has.f t316 t317 t318 8).bind fun t369 => (if t369 = true then ((span_Has.f t316 t317 t318 6).bind fun t370 => (if t370 = true then (none) else ((span_Size.f t316 t317 t318).bind fun t371 => (if t371 = 6 then ((warpwrightlaw25_scale.f k t316 t317 t318 1099511627776).bind fun bt372 => (some (bt372.2.2.2 == 2))) else (none))))) else (none))))) else (none))))))))) else (none)))))) = some r := H
       have A26 := Aside0.mk A260
       clear A260
       replace H := Option.bind_eq_some_iff.mp H
       obtain ⟨⟨t345, t346, t347, t348⟩, A270, H⟩ := H
       replace H : (if ((!(t341 == t345) || (!(t342 == t346) || (!(t343 == t347)))) || (!t344)) = true then (none) else ((warpwrightlaw25_is.f 1 21 2).bind fun bt349 => ((span_Apart.f k t316 t317 t318 bt349.1 bt349.2.1 bt349.2.2.1).bind fun t353 => (if t353 = true then ((span_Apart.f k t316 t317 t318 t320 t321 t322).bind fun t354 => (if t354 = true then (none) else ((warpwrightlaw25_is.f 5 29 12).bind fun bt355 => ((warpwrightlaw25_mod.f k bt355.1 bt355.2.1 bt355.2.2.1 8).bind fun bt359 => ((warpwrightlaw25_is.f 1 5 4).bind fun bt363 => (if ((!(bt359.1 == bt363.1) || (!(bt359.2.1 == bt363.2.1) || (!(bt359.2.2.1 == bt363.2.2.1)))) || (!(bt359.2.2.2 == bt363.2.2.2))) = true then (none) else ((span_Valid.f k t316 t317 t318).bind fun t367 => (if t367 = true then ((span_Valid.f k 0 5 2).bind fun t368 => (if t368 = true then (none) else ((span_Has.f t316 t317 t318 8).bind fun t369 => (if t369 = true then ((span_Has.f t316 t317 t318 6).bind fun t370 => (if t370 = true then (none) else ((span_Size.f t316 t317 t318).bind fun t371 => (if t371 = 6 then ((warpwrightlaw25_scale.f k t316 t317 t318 1099511627776).bind fun bt372 => (some (bt372.2.2.2 == 2))) else (none))))) else (none))))) else (none))))))))) else (none))))) = some r := H
       have A27 := Aside0.mk A270
       clear A270
       by_cases c28 : ((!(t341 == t345) || (!(t342 == t346) || (!(t343 == t347)))) || (!t344)) = true
       ·rw [if_pos c28] at H
        have c28b0 : ((!(t341 == t345) || (!(t342 == t346) || (!(t343 == t347)))) || (!t344)) = true := c28
        clear c28
        exact absurd H (by simp)
       ·rw [if_neg c28] at H
        have c28b0 : ((!(t341 == t345) || (!(t342 == t346) || (!(t343 == t347)))) || (!t344)) = false := by first | (simp; done) | simpa using c28
        clear c28
        replace H := Option.bind_eq_some_iff.mp H
        obtain ⟨⟨t349, t350, t351, t352⟩, A290, H⟩ := H
        replace H : ((span_Apart.f k t316 t317 t318 t349 t350 t351).bind fun t353 => (if t353 = true then ((span_Apart.f k t316 t317 t318 t320 t321 t322).bind fun t354 => (if t354 = true then (none) else ((warpwrightlaw25_is.f 5 29 12).bind fun bt355 => ((warpwrightlaw25_mod.f k bt355.1 bt355.2.1 bt355.2.2.1 8).bind fun bt359 => ((warpwrightlaw25_is.f 1 5 4).bind fun bt363 => (if ((!(bt359.1 == bt363.1) || (!(bt359.2.1 == bt363.2.1) || (!(bt359.2.2.1 == bt363.2.2.1)))) || (!(bt359.2.2.2 == bt363.2.2.2))) = true then (none) else ((span_Valid.f k t316 t317 t318).bind fun t367 => (if t367 = true then ((span_Valid.f k 0 5 2).bind fun t368 => (if t368 = true then (none) else ((span_Has.f t316 t317 t318 8).bind fun t369 => (if t369 = true then ((span_Has.f t316 t317 t318 6).bind fun t370 => (if t370 = true then (none) else ((span_Size.f t316 t317 t318).bind fun t371 => (if t371 = 6 then ((warpwrightlaw25_scale.f k t316 t317 t318 1099511627776).bind fun bt372 => (some (bt372.2.2.2 == 2))) else (none))))) else (none))))) else (none))))))))) else (none))) = some r := H
        have A29 := Aside0.mk A290
        clear A290
        replace H := Option.bind_eq_some_iff.mp H
        obtain ⟨t353, A300, H⟩ := H
        replace H : (if t353 = true then ((span_Apart.f k t316 t317 t318 t320 t321 t322).bind fun t354 => (if t354 = true then (none) else ((warpwrightlaw25_is.f 5 29 12).bind fun bt355 => ((warpwrightlaw25_mod.f k bt355.1 bt355.2.1 bt355.2.2.1 8).bind fun bt359 => ((warpwrightlaw25_is.f 1 5 4).bind fun bt363 => (if ((!(bt359.1 == bt363.1) || (!(bt359.2.1 == bt363.2.1) || (!(bt359.2.2.1 == bt363.2.2.1)))) || (!(bt359.2.2.2 == bt363.2.2.2))) = true then (none) else ((span_Valid.f k t316 t317 t318).bind fun t367 => (if t367 = true then ((span_Valid.f k 0 5 2).bind fun t368 => (if t368 = true then (none) else ((span_Has.f t316 t317 t318 8).bind fun t369 => (if t369 = true then ((span_Has.f t316 t317 t318 6).bind fun t370 => (if t370 = true then (none) else ((span_Size.f t316 t317 t318).bind fun t371 => (if t371 = 6 then ((warpwrightlaw25_scale.f k t316 t317 t318 1099511627776).bind fun bt372 => (some (bt372.2.2.2 == 2))) else (none))))) else (none))))) else (none))))))))) else (none)) = some r := H
        have A30 := Aside0.mk A300
        clear A300
        by_cases c31 : t353 = true
        ·subst c31
         have H1 : ((span_Apart.f k t316 t317 t318 t320 t321 t322).bind fun t354 => (if t354 = true then (none) else ((warpwrightlaw25_is.f 5 29 12).bind fun bt355 => ((warpwrightlaw25_mod.f k bt355.1 bt355.2.1 bt355.2.2.1 8).bind fun bt359 => ((warpwrightlaw25_is.f 1 5 4).bind fun bt363 => (if ((!(bt359.1 == bt363.1) || (!(bt359.2.1 == bt363.2.1) || (!(bt359.2.2.1 == bt363.2.2.1)))) || (!(bt359.2.2.2 == bt363.2.2.2))) = true then (none) else ((span_Valid.f k t316 t317 t318).bind fun t367 => (if t367 = true then ((span_Valid.f k 0 5 2).bind fun t368 => (if t368 = true then (none) else ((span_Has.f t316 t317 t318 8).bind fun t369 => (if t369 = true then ((span_Has.f t316 t317 t318 6).bind fun t370 => (if t370 = true then (none) else ((span_Size.f t316 t317 t318).bind fun t371 => (if t371 = 6 then ((warpwrightlaw25_scale.f k t316 t317 t318 1099511627776).bind fun bt372 => (some (bt372.2.2.2 == 2))) else (none))))) else (none))))) else (none))))))))) = some r := by rw [if_pos rfl] at H; exact H
         clear H
         have H := H1
         clear H1
         replace H := Option.bind_eq_some_iff.mp H
         obtain ⟨t354, A320, H⟩ := H
         replace H : (if t354 = true then (none) else ((warpwrightlaw25_is.f 5 29 12).bind fun bt355 => ((warpwrightlaw25_mod.f k bt355.1 bt355.2.1 bt355.2.2.1 8).bind fun bt359 => ((warpwrightlaw25_is.f 1 5 4).bind fun bt363 => (if ((!(bt359.1 == bt363.1) || (!(bt359.2.1 == bt363.2.1) || (!(bt359.2.2.1 == bt363.2.2.1)))) || (!(bt359.2.2.2 == bt363.2.2.2))) = true then (none) else ((span_Valid.f k t316 t317 t318).bind fun t367 => (if t367 = true then ((span_Valid.f k 0 5 2).bind fun t368 => (if t368 = true then (none) else ((span_Has.f t316 t317 t318 8).bind fun t369 => (if t369 = true then ((span_Has.f t316 t317 t318 6).bind fun t370 => (if t370 = true then (none) else ((span_Size.f t316 t317 t318).bind fun t371 => (if t371 = 6 then ((warpwrightlaw25_scale.f k t316 t317 t318 1099511627776).bind fun bt372 => (some (bt372.2.2.2 == 2))) else (none))))) else (none))))) else (none)))))))) = some r := H
         have A32 := Aside0.mk A320
         clear A320
         by_cases c33 : t354 = true
         ·subst c33
          have H1 : (none) = some r := by rw [if_pos rfl] at H; exact H
          clear H
          have H := H1
          clear H1
          exact absurd H (by simp)
         ·replace c33 := Bool.eq_false_iff.mpr c33
          subst c33
          have H1 : ((warpwrightlaw25_is.f 5 29 12).bind fun bt355 => ((warpwrightlaw25_mod.f k bt355.1 bt355.2.1 bt355.2.2.1 8).bind fun bt359 => ((warpwrightlaw25_is.f 1 5 4).bind fun bt363 => (if ((!(bt359.1 == bt363.1) || (!(bt359.2.1 == bt363.2.1) || (!(bt359.2.2.1 == bt363.2.2.1)))) || (!(bt359.2.2.2 == bt363.2.2.2))) = true then (none) else ((span_Valid.f k t316 t317 t318).bind fun t367 => (if t367 = true then ((span_Valid.f k 0 5 2).bind fun t368 => (if t368 = true then (none) else ((span_Has.f t316 t317 t318 8).bind fun t369 => (if t369 = true then ((span_Has.f t316 t317 t318 6).bind fun t370 => (if t370 = true then (none) else ((span_Size.f t316 t317 t318).bind fun t371 => (if t371 = 6 then ((warpwrightlaw25_scale.f k t316 t317 t318 1099511627776).bind fun bt372 => (some (bt372.2.2.2 == 2))) else (none))))) else (none))))) else (none))))))) = some r := by rw [if_neg (show ¬ (false = true) by decide)] at H; exact H
          clear H
          have H := H1
          clear H1
          replace H := Option.bind_eq_some_iff.mp H
          obtain ⟨⟨t355, t356, t357, t358⟩, A340, H⟩ := H
          replace H : ((warpwrightlaw25_mod.f k t355 t356 t357 8).bind fun bt359 => ((warpwrightlaw25_is.f 1 5 4).bind fun bt363 => (if ((!(bt359.1 == bt363.1) || (!(bt359.2.1 == bt363.2.1) || (!(bt359.2.2.1 == bt363.2.2.1)))) || (!(bt359.2.2.2 == bt363.2.2.2))) = true then (none) else ((span_Valid.f k t316 t317 t318).bind fun t367 => (if t367 = true then ((span_Valid.f k 0 5 2).bind fun t368 => (if t368 = true then (none) else ((span_Has.f t316 t317 t318 8).bind fun t369 => (if t369 = true then ((span_Has.f t316 t317 t318 6).bind fun t370 => (if t370 = true then (none) else ((span_Size.f t316 t317 t318).bind fun t371 => (if t371 = 6 then ((warpwrightlaw25_scale.f k t316 t317 t318 1099511627776).bind fun bt372 => (some (bt372.2.2.2 == 2))) else (none))))) else (none))))) else (none)))))) = some r := H
          have A34 := Aside0.mk A340
          clear A340
          replace H := Option.bind_eq_some_iff.mp H
          obtain ⟨⟨t359, t360, t361, t362⟩, A350, H⟩ := H
          replace H : ((warpwrightlaw25_is.f 1 5 4).bind fun bt363 => (if ((!(t359 == bt363.1) || (!(t360 == bt363.2.1) || (!(t361 == bt363.2.2.1)))) || (!(t362 == bt363.2.2.2))) = true then (none) else ((span_Valid.f k t316 t317 t318).bind fun t367 => (if t367 = true then ((span_Valid.f k 0 5 2).bind fun t368 => (if t368 = true then (none) else ((span_Has.f t316 t317 t318 8).bind fun t369 => (if t369 = true then ((span_Has.f t316 t317 t318 6).bind fun t370 => (if t370 = true then (none) else ((span_Size.f t316 t317 t318).bind fun t371 => (if t371 = 6 then ((warpwrightlaw25_scale.f k t316 t317 t318 1099511627776).bind fun bt372 => (some (bt372.2.2.2 == 2))) else (none))))) else (none))))) else (none))))) = some r := H
          have A35 := Aside0.mk A350
          clear A350
          replace H := Option.bind_eq_some_iff.mp H
          obtain ⟨⟨t363, t364, t365, t366⟩, A360, H⟩ := H
          replace H : (if ((!(t359 == t363) || (!(t360 == t364) || (!(t361 == t365)))) || (!(t362 == t366))) = true then (none) else ((span_Valid.f k t316 t317 t318).bind fun t367 => (if t367 = true then ((span_Valid.f k 0 5 2).bind fun t368 => (if t368 = true then (none) else ((span_Has.f t316 t317 t318 8).bind fun t369 => (if t369 = true then ((span_Has.f t316 t317 t318 6).bind fun t370 => (if t370 = true then (none) else ((span_Size.f t316 t317 t318).bind fun t371 => (if t371 = 6 then ((warpwrightlaw25_scale.f k t316 t317 t318 1099511627776).bind fun bt372 => (some (bt372.2.2.2 == 2))) else (none))))) else (none))))) else (none)))) = some r := H
          have A36 := Aside0.mk A360
          clear A360
          by_cases c37 : ((!(t359 == t363) || (!(t360 == t364) || (!(t361 == t365)))) || (!(t362 == t366))) = true
          ·rw [if_pos c37] at H
           exact absurd H (by simp)
          ·rw [if_neg c37] at H
           have c37b0 : ((!(t359 == t363) || (!(t360 == t364) || (!(t361 == t365)))) || (!(t362 == t366))) = false := by first | (simp; done) | simpa using c37
           clear c37
           replace H := Option.bind_eq_some_iff.mp H
           obtain ⟨t367, A380, H⟩ := H
           replace H : (if t367 = true then ((span_Valid.f k 0 5 2).bind fun t368 => (if t368 = true then (none) else ((span_Has.f t316 t317 t318 8).bind fun t369 => (if t369 = true then ((span_Has.f t316 t317 t318 6).bind fun t370 => (if t370 = true then (none) else ((span_Size.f t316 t317 t318).bind fun t371 => (if t371 = 6 then ((warpwrightlaw25_scale.f k t316 t317 t318 1099511627776).bind fun bt372 => (some (bt372.2.2.2 == 2))) else (none))))) else (none))))) else (none)) = some r := H
           have A38 := Aside0.mk A380
           clear A380
           by_cases c39 : t367 = true
           ·subst c39
            have H1 : ((span_Valid.f k 0 5 2).bind fun t368 => (if t368 = true then (none) else ((span_Has.f t316 t317 t318 8).bind fun t369 => (if t369 = true then ((span_Has.f t316 t317 t318 6).bind fun t370 => (if t370 = true then (none) else ((span_Size.f t316 t317 t318).bind fun t371 => (if t371 = 6 then ((warpwrightlaw25_scale.f k t316 t317 t318 1099511627776).bind fun bt372 => (some (bt372.2.2.2 == 2))) else (none))))) else (none))))) = some r := by rw [if_pos rfl] at H; exact H
            clear H
            have H := H1
            clear H1
            replace H := Option.bind_eq_some_iff.mp H
            obtain ⟨t368, A400, H⟩ := H
            replace H : (if t368 = true then (none) else ((span_Has.f t316 t317 t318 8).bind fun t369 => (if t369 = true then ((span_Has.f t316 t317 t318 6).bind fun t370 => (if t370 = true then (none) else ((span_Size.f t316 t317 t318).bind fun t371 => (if t371 = 6 then ((warpwrightlaw25_scale.f k t316 t317 t318 1099511627776).bind fun bt372 => (some (bt372.2.2.2 == 2))) else (none))))) else (none)))) = some r := H
            have A40 := Aside0.mk A400
            clear A400
            by_cases c41 : t368 = true
            ·subst c41
             have H1 : (none) = some r := by rw [if_pos rfl] at H; exact H
             clear H
             have H := H1
             clear H1
             exact absurd H (by simp)
            ·replace c41 := Bool.eq_false_iff.mpr c41
             subst c41
             have H1 : ((span_Has.f t316 t317 t318 8).bind fun t369 => (if t369 = true then ((span_Has.f t316 t317 t318 6).bind fun t370 => (if t370 = true then (none) else ((span_Size.f t316 t317 t318).bind fun t371 => (if t371 = 6 then ((warpwrightlaw25_scale.f k t316 t317 t318 1099511627776).bind fun bt372 => (some (bt372.2.2.2 == 2))) else (none))))) else (none))) = some r := by rw [if_neg (show ¬ (false = true) by decide)] at H; exact H
             clear H
             have H := H1
             clear H1
             replace H := Option.bind_eq_some_iff.mp H
             obtain ⟨t369, A420, H⟩ := H
             replace H : (if t369 = true then ((span_Has.f t316 t317 t318 6).bind fun t370 => (if t370 = true then (none) else ((span_Size.f t316 t317 t318).bind fun t371 => (if t371 = 6 then ((warpwrightlaw25_scale.f k t316 t317 t318 1099511627776).bind fun bt372 => (some (bt372.2.2.2 == 2))) else (none))))) else (none)) = some r := H
             have A42 := Aside0.mk A420
             clear A420
             by_cases c43 : t369 = true
             ·subst c43
              have H1 : ((span_Has.f t316 t317 t318 6).bind fun t370 => (if t370 = true then (none) else ((span_Size.f t316 t317 t318).bind fun t371 => (if t371 = 6 then ((warpwrightlaw25_scale.f k t316 t317 t318 1099511627776).bind fun bt372 => (some (bt372.2.2.2 == 2))) else (none))))) = some r := by rw [if_pos rfl] at H; exact H
              clear H
              have H := H1
              clear H1
              replace H := Option.bind_eq_some_iff.mp H
              obtain ⟨t370, A440, H⟩ := H
              replace H : (if t370 = true then (none) else ((span_Size.f t316 t317 t318).bind fun t371 => (if t371 = 6 then ((warpwrightlaw25_scale.f k t316 t317 t318 1099511627776).bind fun bt372 => (some (bt372.2.2.2 == 2))) else (none)))) = some r := H
              have A44 := Aside0.mk A440
              clear A440
              by_cases c45 : t370 = true
              ·subst c45
               have H1 : (none) = some r := by rw [if_pos rfl] at H; exact H
               clear H
               have H := H1
               clear H1
               exact absurd H (by simp)
              ·replace c45 := Bool.eq_false_iff.mpr c45
               subst c45
               have H1 : ((span_Size.f t316 t317 t318).bind fun t371 => (if t371 = 6 then ((warpwrightlaw25_scale.f k t316 t317 t318 1099511627776).bind fun bt372 => (some (bt372.2.2.2 == 2))) else (none))) = some r := by rw [if_neg (show ¬ (false = true) by decide)] at H; exact H
               clear H
               have H := H1
               clear H1
               replace H := Option.bind_eq_some_iff.mp H
               obtain ⟨t371, A460, H⟩ := H
               replace H : (if t371 = 6 then ((warpwrightlaw25_scale.f k t316 t317 t318 1099511627776).bind fun bt372 => (some (bt372.2.2.2 == 2))) else (none)) = some r := H
               have A46 := Aside0.mk A460
               clear A460
               by_cases c47 : t371 = 6
               ·rw [if_pos c47] at H
                have c47b0 : (t371 == 6) = true := beq_iff_eq.mpr c47
                have c47b1 : (t371 != 6) = false := bne_eq_false_iff_eq.mpr c47
                clear c47
                replace H := Option.bind_eq_some_iff.mp H
                obtain ⟨⟨t372, t373, t374, t375⟩, A480, H⟩ := H
                replace H : (some (t375 == 2)) = some r := H
                have A48 := Aside0.mk A480
                clear A480
                obtain rfl := Option.some.inj H
                go_enter Try.func10, Try.ntmps10
                try go_wp2_with (first | ((with_reducible refine gate_callee (f := 25) rfl ?_); refine goesL_ (some 3) rfl rfl Try.func25 (by kernel_rfl) rfl #[.int .i64 1, .int .i64 10, .int .i64 4] rfl am_ ?_; (with_reducible refine (warpwrightlaw25_of.calls 1 10 4 t264 t265 t266 t267 _ A1.out).mono ?_); rintro e w49 ⟨rfl, hb⟩; refine ⟨_, rfl, ?_⟩; have n0_ := Aside0.mk (below_step (bl_ HB) hb); clear HB; have HB := n0_; clear n0_; (try clear hb); (try clear hb2); (try clear hk); (try clear hi)) | ((with_reducible refine gate_callee (f := 40) rfl ?_); refine goesL_ (some 4) rfl rfl Try.func40 (by kernel_rfl) rfl #[.int .i64 1, .int .i64 9, .int .i64 4] rfl am_ ?_; (with_reducible refine (warpwrightlaw25_is.calls 1 9 4 t268 t269 t270 t271 _ A2.out).mono ?_); rintro e w50 ⟨rfl, hb⟩; refine ⟨_, rfl, ?_⟩; have n0_ := Aside0.mk (below_step (bl_ HB) hb); clear HB; have HB := n0_; clear n0_; (try clear hb); (try clear hb2); (try clear hk); (try clear hi)) | (go_at_call 25; (with_reducible refine (warpwrightlaw25_of.calls 5 7 4 t272 t273 t274 t275 _ A4.out).mono ?_); rintro e w51 ⟨rfl, hb⟩; have n0_ := Aside0.mk (below_step (bl_ HB) hb); clear HB; have HB := n0_; clear n0_; (try clear hb); (try clear hb2); (try clear hk); (try clear hi)) | (go_at_call 40; (with_reducible refine (warpwrightlaw25_is.calls 5 5 0 t276 t277 t278 t279 _ A5.out).mono ?_); rintro e w52 ⟨rfl, hb⟩; have n0_ := Aside0.mk (below_step (bl_ HB) hb); clear HB; have HB := n0_; clear n0_; (try clear hb); (try clear hb2); (try clear hk); (try clear hi)) | (go_at_call 25; (with_reducible refine (warpwrightlaw25_of.calls 5 4 1 t280 t281 t282 t283 _ A7.out).mono ?_); rintro e w53 ⟨rfl, hb⟩; have n0_ := Aside0.mk (below_step (bl_ HB) hb); clear HB; have HB := n0_; clear n0_; (try clear hb); (try clear hb2); (try clear hk); (try clear hi)) | (go_at_call 40; (with_reducible refine (warpwrightlaw25_is.calls 0 6 2 t284 t285 t286 t287 _ A9.out).mono ?_); rintro e w54 ⟨rfl, hb⟩; have n0_ := Aside0.mk (below_step (bl_ HB) hb); clear HB; have HB := n0_; clear n0_; (try clear hb); (try clear hb2); (try clear hk); (try clear hi)) | (go_at_call 40; (with_reducible refine (warpwrightlaw25_is.calls 1 4 3 t288 t289 t290 t291 _ A10.out).mono ?_); rintro e w55 ⟨rfl, hb⟩; have n0_ := Aside0.mk (below_step (bl_ HB) hb); clear HB; have HB := n0_; clear n0_; (try clear hb); (try clear hb2); (try clear hk); (try clear hi)) | (go_at_call 32; (with_reducible refine (warpwrightlaw25_add.calls k t284 t285 t286 t288 t289 t290 t292 t293 t294 t295 _ A11.out).mono ?_); rintro e w56 ⟨rfl, hb⟩; have n0_ := Aside0.mk (below_step (bl_ HB) hb); clear HB; have HB := n0_; clear n0_; (try clear hb); (try clear hb2); (try clear hk); (try clear hi)) | (go_at_call 40; (with_reducible refine (warpwrightlaw25_is.calls 1 10 1 t296 t297 t298 t299 _ A12.out).mono ?_); rintro e w57 ⟨rfl, hb⟩; have n0_ := Aside0.mk (below_step (bl_ HB) hb); clear HB; have HB := n0_; clear n0_; (try clear hb); (try clear hb2); (try clear hk); (try clear hi)) | (go_at_call 40; (with_reducible refine (warpwrightlaw25_is.calls 2 4 2 t300 t301 t302 t303 _ A14.out).mono ?_); rintro e w58 ⟨rfl, hb⟩; have n0_ := Aside0.mk (below_step (bl_ HB) hb); clear HB; have HB := n0_; clear n0_; (try clear hb); (try clear hb2); (try clear hk); (try clear hi)) | (go_at_call 40; (with_reducible refine (warpwrightlaw25_is.calls 3 5 2 t304 t305 t306 t307 _ A15.out).mono ?_); rintro e w59 ⟨rfl, hb⟩; have n0_ := Aside0.mk (below_step (bl_ HB) hb); clear HB; have HB := n0_; clear n0_; (try clear hb); (try clear hb2); (try clear hk); (try clear hi)) | (go_at_call 36; (with_reducible refine (warpwrightlaw25_mul.calls k t300 t301 t302 t304 t305 t306 t308 t309 t310 t311 _ A16.out).mono ?_); rintro e w60 ⟨rfl, hb⟩; have n0_ := Aside0.mk (below_step (bl_ HB) hb); clear HB; have HB := n0_; clear n0_; (try clear hb); (try clear hb2); (try clear hk); (try clear hi)) | (go_at_call 40; (with_reducible refine (warpwrightlaw25_is.calls 6 20 2 t312 t313 t314 t315 _ A17.out).mono ?_); rintro e w61 ⟨rfl, hb⟩; have n0_ := Aside0.mk (below_step (bl_ HB) hb); clear HB; have HB := n0_; clear n0_; (try clear hb); (try clear hb2); (try clear hk); (try clear hi)) | ((with_reducible refine gate_callee (f := 40) rfl ?_); refine goesL_ (some 34) rfl rfl Try.func40 (by kernel_rfl) rfl #[.int .i64 0, .int .i64 20, .int .i64 4] rfl am_ ?_; (with_reducible refine (warpwrightlaw25_is.calls 0 20 4 t316 t317 t318 t319 _ A19.out).mono ?_); rintro e w62 ⟨rfl, hb⟩; refine ⟨_, rfl, ?_⟩; have n0_ := Aside0.mk (below_step (bl_ HB) hb); clear HB; have HB := n0_; clear n0_; (try clear hb); (try clear hb2); (try clear hk); (try clear hi)) | ((with_reducible refine gate_callee (f := 40) rfl ?_); refine goesL_ (some 36) rfl rfl Try.func40 (by kernel_rfl) rfl #[.int .i64 2, .int .i64 20, .int .i64 6] rfl am_ ?_; (with_reducible refine (warpwrightlaw25_is.calls 2 20 6 t320 t321 t322 t323 _ A20.out).mono ?_); rintro e w63 ⟨rfl, hb⟩; refine ⟨_, rfl, ?_⟩; have n0_ := Aside0.mk (below_step (bl_ HB) hb); clear HB; have HB := n0_; clear n0_; (try clear hb); (try clear hb2); (try clear hk); (try clear hi)) | ((with_reducible refine gate_dst (N := 1) rfl ?_); refine box_event ?hg (N := 1) ?hd (cs := #[.int .i64 0, .int .i64 0, .int .i64 0]) (t := 28) ?hr ?_; (case hd => rfl); (case hg => rfl); (case hr => first | (go_simp; done) | (go_simp; rfl)); intro gb324 hg w64 hbox hb; have n0_ := Aside0.mk (below_step (bl_ HB) hb); have n1_ := Aside0.mk (hbox); have n2_ := Aside0.mk ((by rw [hg]; exact (below_size (bl_ HB)) : w.heap.size ≤ gb324)); have n3_ := Aside0.mk ((by rw [hg]; exact (below_size (bl_ HB)) : w.heap.size ≤ gb324)); clear HB; have HB := n0_; have BK324 := n1_; have GW324 := n2_; have GE324 := n3_; clear n0_ n1_ n2_ n3_; clear hb hbox hg) | ((with_reducible refine gate_dst (N := 2) rfl ?_); refine box_event ?hg (N := 2) ?hd (cs := #[.int .i64 0, .int .i64 0, .int .i64 0]) (t := 28) ?hr ?_; (case hd => rfl); (case hg => rfl); (case hr => first | (go_simp; done) | (go_simp; rfl)); intro gb325 hg w65 hbox hb; have n0_ := Aside0.mk (bb_ BK324 hb); have n1_ := Aside0.mk (below_step (bl_ HB) hb); have n2_ := Aside0.mk (hbox); have n3_ := Aside0.mk ((by rw [hg]; exact (below_size (bl_ HB)) : w.heap.size ≤ gb325)); have n4_ := Aside0.mk ((by rw [hg]; exact (below_size (bl_ HB)) : w.heap.size ≤ gb325)); have n5_ := Aside0.mk (nl_ hg BK324); have n6_ := Aside0.mk (ng_ hg BK324); clear BK324; clear HB; have BK324 := n0_; have HB := n1_; have BK325 := n2_; have GW325 := n3_; have GE325 := n4_; have NB324_325 := n5_; have NB325_324 := n6_; clear n0_ n1_ n2_ n3_ n4_ n5_ n6_; clear hb hbox hg; have hnb66 := NB324_325.out; have hnc66 := NB325_324.out; have hcz67_0 : w65.cell? ⟨gb324, 0, none⟩ = some (.int .i64 0) := (blk_cell BK324.out 0).trans rfl; have hcz67_1 : w65.cell? ⟨gb324, 1, none⟩ = some (.int .i64 0) := (blk_cell BK324.out 1).trans rfl; have hcz67_2 : w65.cell? ⟨gb324, 2, none⟩ = some (.int .i64 0) := (blk_cell BK324.out 2).trans rfl; have hfz67_0 := blk_frozen BK324.out 0; have hfz67_1 := blk_frozen BK324.out 1; have hfz67_2 := blk_frozen BK324.out 2; have hcz68_0 : w65.cell? ⟨gb325, 0, none⟩ = some (.int .i64 0) := (blk_cell BK325.out 0).trans rfl; have hcz68_1 : w65.cell? ⟨gb325, 1, none⟩ = some (.int .i64 0) := (blk_cell BK325.out 1).trans rfl; have hcz68_2 : w65.cell? ⟨gb325, 2, none⟩ = some (.int .i64 0) := (blk_cell BK325.out 2).trans rfl; have hfz68_0 := blk_frozen BK325.out 0; have hfz68_1 := blk_frozen BK325.out 1; have hfz68_2 := blk_frozen BK325.out 2))
                have n0_ : Aside0 (((((((w65.setCell ⟨gb324, 0, none⟩ (.int .i64 t316)).setCell ⟨gb324, 1, none⟩ (.int .i64 t317)).setCell ⟨gb324, 2, none⟩ (.int .i64 t318)).setCell ⟨gb325, 0, none⟩ (.int .i64 t320)).setCell ⟨gb325, 1, none⟩ (.int .i64 t321)).setCell ⟨gb325, 2, none⟩ (.int .i64 t322)).heap[gb324]? = some (.cells #[.int .i64 t316, .int .i64 t317, .int .i64 t318] 28 (0, 0))) := ⟨by (with_reducible repeat (first | refine blk_drewN ?_ _ | refine blk_drew ?_ | refine blk_alloc ?_ _)); refine blk_far ?_ NB324_325.out _; (with_reducible repeat (first | refine blk_drewN ?_ _ | refine blk_drew ?_ | refine blk_alloc ?_ _)); refine blk_far ?_ NB324_325.out _; (with_reducible repeat (first | refine blk_drewN ?_ _ | refine blk_drew ?_ | refine blk_alloc ?_ _)); refine blk_far ?_ NB324_325.out _; (with_reducible repeat (first | refine blk_drewN ?_ _ | refine blk_drew ?_ | refine blk_alloc ?_ _)); refine blk_put (cs := #[.int .i64 t316, .int .i64 t317, .int .i64 0]) ?_ 2 _ rfl; (with_reducible repeat (first | refine blk_drewN ?_ _ | refine blk_drew ?_ | refine blk_alloc ?_ _)); refine blk_put (cs := #[.int .i64 t316, .int .i64 0, .int .i64 0]) ?_ 1 _ rfl; (with_reducible repeat (first | refine blk_drewN ?_ _ | refine blk_drew ?_ | refine blk_alloc ?_ _)); refine blk_put (cs := #[.int .i64 0, .int .i64 0, .int .i64 0]) ?_ 0 _ rfl; (with_reducible repeat (first | refine blk_drewN ?_ _ | refine blk_drew ?_ | refine blk_alloc ?_ _)); exact BK324.out⟩
                have n1_ : Aside0 (((((((w65.setCell ⟨gb324, 0, none⟩ (.int .i64 t316)).setCell ⟨gb324, 1, none⟩ (.int .i64 t317)).setCell ⟨gb324, 2, none⟩ (.int .i64 t318)).setCell ⟨gb325, 0, none⟩ (.int .i64 t320)).setCell ⟨gb325, 1, none⟩ (.int .i64 t321)).setCell ⟨gb325, 2, none⟩ (.int .i64 t322)).heap[gb325]? = some (.cells #[.int .i64 t320, .int .i64 t321, .int .i64 t322] 28 (0, 0))) := ⟨by (with_reducible repeat (first | refine blk_drewN ?_ _ | refine blk_drew ?_ | refine blk_alloc ?_ _)); refine blk_put (cs := #[.int .i64 t320, .int .i64 t321, .int .i64 0]) ?_ 2 _ rfl; (with_reducible repeat (first | refine blk_drewN ?_ _ | refine blk_drew ?_ | refine blk_alloc ?_ _)); refine blk_put (cs := #[.int .i64 t320, .int .i64 0, .int .i64 0]) ?_ 1 _ rfl; (with_reducible repeat (first | refine blk_drewN ?_ _ | refine blk_drew ?_ | refine blk_alloc ?_ _)); refine blk_put (cs := #[.int .i64 0, .int .i64 0, .int .i64 0]) ?_ 0 _ rfl; (with_reducible repeat (first | refine blk_drewN ?_ _ | refine blk_drew ?_ | refine blk_alloc ?_ _)); refine blk_far ?_ NB325_324.out _; (with_reducible repeat (first | refine blk_drewN ?_ _ | refine blk_drew ?_ | refine blk_alloc ?_ _)); refine blk_far ?_ NB325_324.out _; (with_reducible repeat (first | refine blk_drewN ?_ _ | refine blk_drew ?_ | refine blk_alloc ?_ _)); refine blk_far ?_ NB325_324.out _; (with_reducible repeat (first | refine blk_drewN ?_ _ | refine blk_drew ?_ | refine blk_alloc ?_ _)); exact BK325.out⟩
                have n2_ : Aside0 (Below w.heap.size w ((((((w65.setCell ⟨gb324, 0, none⟩ (.int .i64 t316)).setCell ⟨gb324, 1, none⟩ (.int .i64 t317)).setCell ⟨gb324, 2, none⟩ (.int .i64 t318)).setCell ⟨gb325, 0, none⟩ (.int .i64 t320)).setCell ⟨gb325, 1, none⟩ (.int .i64 t321)).setCell ⟨gb325, 2, none⟩ (.int .i64 t322))) := ⟨by repeat (first | (with_reducible first | exact HB.out | apply below_alloc | apply pw_below_drewN | apply below_drew1 | refine below_set ?_ GE324.out | refine below_set ?_ GE325.out) | exact HB.out)⟩
                (try clear BK324)
                (try clear BK325)
                (try clear HB)
                generalize ((((((w65.setCell ⟨gb324, 0, none⟩ (.int .i64 t316)).setCell ⟨gb324, 1, none⟩ (.int .i64 t317)).setCell ⟨gb324, 2, none⟩ (.int .i64 t318)).setCell ⟨gb325, 0, none⟩ (.int .i64 t320)).setCell ⟨gb325, 1, none⟩ (.int .i64 t321)).setCell ⟨gb325, 2, none⟩ (.int .i64 t322)) = w69 at n0_ n1_ n2_ ⊢
                have BK324 := n0_
                have BK325 := n1_
                have HB := n2_
                clear n0_ n1_ n2_
                have n0_ := Aside0.mk (blk_drew BK324.out)
                have n1_ := Aside0.mk (blk_drew BK325.out)
                have n2_ := Aside0.mk (below_drew1 HB.out)
                clear BK324
                clear BK325
                clear HB
                have BK324 := n0_
                have BK325 := n1_
                have HB := n2_
                clear n0_ n1_ n2_
                refine start_ (n := 36) (S := fun w' => w'.cell? ⟨gb324, 0, none⟩ = some (.int .i64 t316) ∧ w'.cell? ⟨gb324, 1, none⟩ = some (.int .i64 t317) ∧ w'.cell? ⟨gb324, 2, none⟩ = some (.int .i64 t318) ∧ w'.cell? ⟨gb325, 0, none⟩ = some (.int .i64 t320) ∧ w'.cell? ⟨gb325, 1, none⟩ = some (.int .i64 t321) ∧ w'.cell? ⟨gb325, 2, none⟩ = some (.int .i64 t322)) (ds := []) #[false, false, false, false, false, false, false, false, false, false, false, false, false, false, false, false, false, false, false, false, false, false, false, false, false, false, false, false, false, false, false, false, false, false, false, false] (by kernel_rfl) rfl rfl ⟨(blk_cell BK324.out 0).trans rfl, (blk_cell BK324.out 1).trans rfl, (blk_cell BK324.out 2).trans rfl, (blk_cell BK325.out 0).trans rfl, (blk_cell BK325.out 1).trans rfl, (blk_cell BK325.out 2).trans rfl⟩ (fun hHeld => ?_); refine with_tabW warpwrightlaw25_examples.tab4 warpwrightlaw25_examples.bits4 (fun HT_ HW_ => ?_)
                generalize w69.drew = w70 at BK324 BK325 HB hHeld ⊢
                refine one_ (i := 0) (N := some 38) (bm_ 36 1) rfl rfl (one_of HT_.out (by kernel_rfl)) (by decide) (fun K hK => ?_)
                refine goes_ Try.func40 (by kernel_rfl) rfl #[.int .i64 0, .int .i64 4, .int .i64 4] (by rfl) rfl rfl am_ ?_
                with_reducible refine (warpwrightlaw25_is.calls 0 4 4 t326 t327 t328 t329 _ A21.out).mono ?_
                rintro e w71 ⟨rfl, hb⟩
                refine ⟨_, rfl, ?_⟩
                have n0_ := Aside0.mk (bb_ BK324 hb)
                have n1_ := Aside0.mk (bb_ BK325 hb)
                have n2_ := Aside0.mk (below_step (bl_ HB) hb)
                clear BK324
                clear BK325
                clear HB
                have BK324 := n0_
                have BK325 := n1_
                have HB := n2_
                clear n0_ n1_ n2_
                (try clear hb)
                (try clear hb2)
                (try clear hk)
                (try clear hi)
                refine hK.out _ _ ⟨(blk_cell BK324.out 0).trans rfl, (blk_cell BK324.out 1).trans rfl, (blk_cell BK324.out 2).trans rfl, (blk_cell BK325.out 0).trans rfl, (blk_cell BK325.out 1).trans rfl, (blk_cell BK325.out 2).trans rfl⟩ (fun hHeld => ?_)
                clear hK K
                refine norm_ (a' := ?_) ?_ ?_
                rotate_left
                ·show Act.put _ (some 38) _ = _
                 simp only [Act.put, List.setIfInBounds_toArray, List.set_cons_zero, List.set_cons_succ, i64_w, i32_w]
                 rfl
                refine pure_ (i := 1) (N := some 39) (v := ?_) (a' := ?_) (bm_ 36 3) rfl rfl (any_of HT_.out (by kernel_rfl)) (fun _ _ _ h => h) (Or.inl ⟨by rfl, ?_⟩) ?_ ?_
                rotate_left
                ·intro w'
                 go_simp
                 with_reducible rfl
                rotate_left
                ·simp only [Act.put, List.setIfInBounds_toArray, List.set_cons_zero, List.set_cons_succ, i64_w, i32_w]
                 rfl
                refine one_ (i := 2) (N := some 40) (bm_ 36 7) rfl rfl (one_of HT_.out (by kernel_rfl)) (by decide) (fun K hK => ?_)
                refine goes_ Try.func40 (by kernel_rfl) rfl #[.int .i64 6, .int .i64 6, .int .i64 0] (by rfl) rfl rfl am_ ?_
                with_reducible refine (warpwrightlaw25_is.calls 6 6 0 t330 t331 t332 t333 _ A22.out).mono ?_
                rintro e w72 ⟨rfl, hb⟩
                refine ⟨_, rfl, ?_⟩
                have n0_ := Aside0.mk (bb_ BK324 hb)
                have n1_ := Aside0.mk (bb_ BK325 hb)
                have n2_ := Aside0.mk (below_step (bl_ HB) hb)
                clear BK324
                clear BK325
                clear HB
                have BK324 := n0_
                have BK325 := n1_
                have HB := n2_
                clear n0_ n1_ n2_
                (try clear hb)
                (try clear hb2)
                (try clear hk)
                (try clear hi)
                refine hK.out _ _ ⟨(blk_cell BK324.out 0).trans rfl, (blk_cell BK324.out 1).trans rfl, (blk_cell BK324.out 2).trans rfl, (blk_cell BK325.out 0).trans rfl, (blk_cell BK325.out 1).trans rfl, (blk_cell BK325.out 2).trans rfl⟩ (fun hHeld => ?_)
                clear hK K
                refine norm_ (a' := ?_) ?_ ?_
                rotate_left
                ·show Act.put _ (some 40) _ = _
                 simp only [Act.put, List.setIfInBounds_toArray, List.set_cons_zero, List.set_cons_succ, i64_w, i32_w]
                 rfl
                refine pure_ (i := 3) (N := some 41) (v := ?_) (a' := ?_) (bm_ 36 15) rfl rfl (any_of HT_.out (by kernel_rfl)) (fun _ _ _ h => h) (Or.inl ⟨by rfl, ?_⟩) ?_ ?_
                rotate_left
                ·intro w'
                 go_simp
                 with_reducible rfl
                rotate_left
                ·simp only [Act.put, List.setIfInBounds_toArray, List.set_cons_zero, List.set_cons_succ, i64_w, i32_w]
                 rfl
                refine one_ (i := 4) (N := some 42) (bm_ 36 31) rfl rfl (one_of HT_.out (by kernel_rfl)) (by decide) (fun K hK => ?_)
                refine goes_ Try.func23 (by kernel_rfl) rfl #[.agg #[.int .i64 t326, .int .i64 t327, .int .i64 t328], .agg #[.int .i64 t330, .int .i64 t331, .int .i64 t332]] (by rfl) rfl rfl am_ ?_
                with_reducible refine (span_Join.calls k t326 t327 t328 t330 t331 t332 t334 t335 t336 _ A23.out).mono ?_
                rintro e w73 ⟨rfl, hb⟩
                refine ⟨_, rfl, ?_⟩
                have n0_ := Aside0.mk (bb_ BK324 hb)
                have n1_ := Aside0.mk (bb_ BK325 hb)
                have n2_ := Aside0.mk (below_step (bl_ HB) hb)
                clear BK324
                clear BK325
                clear HB
                have BK324 := n0_
                have BK325 := n1_
                have HB := n2_
                clear n0_ n1_ n2_
                (try clear hb)
                (try clear hb2)
                (try clear hk)
                (try clear hi)
                refine hK.out _ _ ⟨(blk_cell BK324.out 0).trans rfl, (blk_cell BK324.out 1).trans rfl, (blk_cell BK324.out 2).trans rfl, (blk_cell BK325.out 0).trans rfl, (blk_cell BK325.out 1).trans rfl, (blk_cell BK325.out 2).trans rfl⟩ (fun hHeld => ?_)
                clear hK K
                refine norm_ (a' := ?_) ?_ ?_
                rotate_left
                ·show Act.put _ (some 42) _ = _
                 simp only [Act.put, List.setIfInBounds_toArray, List.set_cons_zero, List.set_cons_succ, i64_w, i32_w]
                 rfl
                refine one_ (i := 5) (N := some 43) (bm_ 36 63) rfl rfl (one_of HT_.out (by kernel_rfl)) (by decide) (fun K hK => ?_)
                refine goes_ Try.func40 (by kernel_rfl) rfl #[.int .i64 0, .int .i64 6, .int .i64 2] (by rfl) rfl rfl am_ ?_
                with_reducible refine (warpwrightlaw25_is.calls 0 6 2 t337 t338 t339 t340 _ A24.out).mono ?_
                rintro e w74 ⟨rfl, hb⟩
                refine ⟨_, rfl, ?_⟩
                have n0_ := Aside0.mk (bb_ BK324 hb)
                have n1_ := Aside0.mk (bb_ BK325 hb)
                have n2_ := Aside0.mk (below_step (bl_ HB) hb)
                clear BK324
                clear BK325
                clear HB
                have BK324 := n0_
                have BK325 := n1_
                have HB := n2_
                clear n0_ n1_ n2_
                (try clear hb)
                (try clear hb2)
                (try clear hk)
                (try clear hi)
                refine hK.out _ _ ⟨(blk_cell BK324.out 0).trans rfl, (blk_cell BK324.out 1).trans rfl, (blk_cell BK324.out 2).trans rfl, (blk_cell BK325.out 0).trans rfl, (blk_cell BK325.out 1).trans rfl, (blk_cell BK325.out 2).trans rfl⟩ (fun hHeld => ?_)
                clear hK K
                refine norm_ (a' := ?_) ?_ ?_
                rotate_left
                ·show Act.put _ (some 43) _ = _
                 simp only [Act.put, List.setIfInBounds_toArray, List.set_cons_zero, List.set_cons_succ, i64_w, i32_w]
                 rfl
                refine pure_ (i := 6) (N := some 44) (v := ?_) (a' := ?_) (bm_ 36 127) rfl rfl (any_of HT_.out (by kernel_rfl)) (fun _ _ _ h => h) (Or.inl ⟨by rfl, ?_⟩) ?_ ?_
                rotate_left
                ·intro w'
                 go_simp
                 with_reducible rfl
                rotate_left
                ·simp only [Act.put, List.setIfInBounds_toArray, List.set_cons_zero, List.set_cons_succ, i64_w, i32_w]
                 rfl
                refine pure_ (i := 7) (N := some 45) (v := ?_) (a' := ?_) (bm_ 36 255) rfl rfl (any_of HT_.out (by kernel_rfl)) (fun _ _ _ h => h) (Or.inl ⟨by rfl, ?_⟩) ?_ ?_
                rotate_left
                ·intro w'
                 go_simp
                 with_reducible rfl
                rotate_left
                ·simp only [Act.put, List.setIfInBounds_toArray, List.set_cons_zero, List.set_cons_succ, i64_w, i32_w]
                 rfl
                refine pure_ (i := 8) (N := some 46) (v := ?_) (a' := ?_) (bm_ 36 511) rfl rfl (any_of HT_.out (by kernel_rfl)) (fun _ _ _ h => h) (Or.inl ⟨by rfl, ?_⟩) ?_ ?_
                rotate_left
                ·intro w'
                 go_simp
                 with_reducible rfl
                rotate_left
                ·simp only [Act.put, List.setIfInBounds_toArray, List.set_cons_zero, List.set_cons_succ, i64_w, i32_w]
                 rfl
                refine take_ (i := 9) (N := some 47) (v := ?_) (a' := ?_) (bm_ 36 1023) rfl rfl (take_ofW HT_.out HW_.out (by kernel_rfl)) (fun _ _ _ h => h) (Or.inl ⟨by rfl, ?_⟩) hHeld ?_ ?_
                rotate_left
                ·rintro w' ⟨s0, s1, s2, s3, s4, s5⟩
                 go_simp
                 with_reducible rfl
                rotate_left
                ·simp only [Act.put, List.setIfInBounds_toArray, List.set_cons_zero, List.set_cons_succ, i64_w, i32_w]
                 rfl
                refine take_ (i := 10) (N := some 48) (v := ?_) (a' := ?_) (bm_ 36 2047) rfl rfl (take_ofW HT_.out HW_.out (by kernel_rfl)) (fun _ _ _ h => h) (Or.inl ⟨by rfl, ?_⟩) hHeld ?_ ?_
                rotate_left
                ·rintro w' ⟨s0, s1, s2, s3, s4, s5⟩
                 go_simp
                 with_reducible rfl
                rotate_left
                ·simp only [Act.put, List.setIfInBounds_toArray, List.set_cons_zero, List.set_cons_succ, i64_w, i32_w]
                 rfl
                refine one_ (i := 11) (N := some 49) (bm_ 36 4095) rfl rfl (one_of HT_.out (by kernel_rfl)) (by decide) (fun K hK => ?_)
                refine goes_ Try.func12 (by kernel_rfl) rfl #[.agg #[.int .i64 t316, .int .i64 t317, .int .i64 t318], .agg #[.int .i64 t320, .int .i64 t321, .int .i64 t322]] (by rfl) rfl rfl am_ ?_
                with_reducible refine (warpwrightlaw25_meet.calls k t316 t317 t318 t320 t321 t322 t341 t342 t343 t344 _ A26.out).mono ?_
                rintro e w75 ⟨rfl, hb⟩
                refine ⟨_, rfl, ?_⟩
                have n0_ := Aside0.mk (bb_ BK324 hb)
                have n1_ := Aside0.mk (bb_ BK325 hb)
                have n2_ := Aside0.mk (below_step (bl_ HB) hb)
                clear BK324
                clear BK325
                clear HB
                have BK324 := n0_
                have BK325 := n1_
                have HB := n2_
                clear n0_ n1_ n2_
                (try clear hb)
                (try clear hb2)
                (try clear hk)
                (try clear hi)
                refine hK.out _ _ ⟨(blk_cell BK324.out 0).trans rfl, (blk_cell BK324.out 1).trans rfl, (blk_cell BK324.out 2).trans rfl, (blk_cell BK325.out 0).trans rfl, (blk_cell BK325.out 1).trans rfl, (blk_cell BK325.out 2).trans rfl⟩ (fun hHeld => ?_)
                clear hK K
                refine norm_ (a' := ?_) ?_ ?_
                rotate_left
                ·show Act.put _ (some 49) _ = _
                 simp only [Act.put, List.setIfInBounds_toArray, List.set_cons_zero, List.set_cons_succ, i64_w, i32_w]
                 rfl
                refine one_ (i := 12) (N := some 50) (bm_ 36 8191) rfl rfl (one_of HT_.out (by kernel_rfl)) (by decide) (fun K hK => ?_)
                refine goes_ Try.func40 (by kernel_rfl) rfl #[.int .i64 8, .int .i64 20, .int .i64 12] (by rfl) rfl rfl am_ ?_
                with_reducible refine (warpwrightlaw25_is.calls 8 20 12 t345 t346 t347 t348 _ A27.out).mono ?_
                rintro e w76 ⟨rfl, hb⟩
                refine ⟨_, rfl, ?_⟩
                have n0_ := Aside0.mk (bb_ BK324 hb)
                have n1_ := Aside0.mk (bb_ BK325 hb)
                have n2_ := Aside0.mk (below_step (bl_ HB) hb)
                clear BK324
                clear BK325
                clear HB
                have BK324 := n0_
                have BK325 := n1_
                have HB := n2_
                clear n0_ n1_ n2_
                (try clear hb)
                (try clear hb2)
                (try clear hk)
                (try clear hi)
                refine hK.out _ _ ⟨(blk_cell BK324.out 0).trans rfl, (blk_cell BK324.out 1).trans rfl, (blk_cell BK324.out 2).trans rfl, (blk_cell BK325.out 0).trans rfl, (blk_cell BK325.out 1).trans rfl, (blk_cell BK325.out 2).trans rfl⟩ (fun hHeld => ?_)
                clear hK K
                refine norm_ (a' := ?_) ?_ ?_
                rotate_left
                ·show Act.put _ (some 50) _ = _
                 simp only [Act.put, List.setIfInBounds_toArray, List.set_cons_zero, List.set_cons_succ, i64_w, i32_w]
                 rfl
                refine pure_ (i := 13) (N := some 51) (v := ?_) (a' := ?_) (bm_ 36 16383) rfl rfl (any_of HT_.out (by kernel_rfl)) (fun _ _ _ h => h) (Or.inl ⟨by rfl, ?_⟩) ?_ ?_
                rotate_left
                ·intro w'
                 go_simp
                 with_reducible rfl
                rotate_left
                ·simp only [Act.put, List.setIfInBounds_toArray, List.set_cons_zero, List.set_cons_succ, i64_w, i32_w]
                 rfl
                refine pure_ (i := 14) (N := some 52) (v := ?_) (a' := ?_) (bm_ 36 32767) rfl rfl (any_of HT_.out (by kernel_rfl)) (fun _ _ _ h => h) (Or.inl ⟨by rfl, ?_⟩) ?_ ?_
                rotate_left
                ·intro w'
                 go_simp
                 with_reducible rfl
                rotate_left
                ·simp only [Act.put, List.setIfInBounds_toArray, List.set_cons_zero, List.set_cons_succ, i64_w, i32_w]
                 rfl
                refine pure_ (i := 15) (N := some 53) (v := ?_) (a' := ?_) (bm_ 36 65535) rfl rfl (any_of HT_.out (by kernel_rfl)) (fun _ _ _ h => h) (Or.inl ⟨by rfl, ?_⟩) ?_ ?_
                rotate_left
                ·intro w'
                 go_simp
                 with_reducible rfl
                rotate_left
                ·simp only [Act.put, List.setIfInBounds_toArray, List.set_cons_zero, List.set_cons_succ, i64_w, i32_w]
                 rfl
                refine pure_ (i := 16) (N := some 54) (v := ?_) (a' := ?_) (bm_ 36 131071) rfl rfl (any_of HT_.out (by kernel_rfl)) (fun _ _ _ h => h) (Or.inl ⟨by rfl, ?_⟩) ?_ ?_
                rotate_left
                ·intro w'
                 go_simp
                 with_reducible rfl
                rotate_left
                ·simp only [Act.put, List.setIfInBounds_toArray, List.set_cons_zero, List.set_cons_succ, i64_w, i32_w]
                 rfl
                refine pure_ (i := 17) (N := some 55) (v := ?_) (a' := ?_) (bm_ 36 262143) rfl rfl (any_of HT_.out (by kernel_rfl)) (fun _ _ _ h => h) (Or.inl ⟨by rfl, ?_⟩) ?_ ?_
                rotate_left
                ·intro w'
                 go_simp
                 with_reducible rfl
                rotate_left
                ·simp only [Act.put, List.setIfInBounds_toArray, List.set_cons_zero, List.set_cons_succ, i64_w, i32_w]
                 rfl
                refine take_ (i := 18) (N := some 56) (v := ?_) (a' := ?_) (bm_ 36 524287) rfl rfl (take_ofW HT_.out HW_.out (by kernel_rfl)) (fun _ _ _ h => h) (Or.inl ⟨by rfl, ?_⟩) hHeld ?_ ?_
                rotate_left
                ·rintro w' ⟨s0, s1, s2, s3, s4, s5⟩
                 go_simp
                 with_reducible rfl
                rotate_left
                ·simp only [Act.put, List.setIfInBounds_toArray, List.set_cons_zero, List.set_cons_succ, i64_w, i32_w]
                 rfl
                refine one_ (i := 19) (N := some 57) (bm_ 36 1048575) rfl rfl (one_of HT_.out (by kernel_rfl)) (by decide) (fun K hK => ?_)
                refine goes_ Try.func40 (by kernel_rfl) rfl #[.int .i64 1, .int .i64 21, .int .i64 2] (by rfl) rfl rfl am_ ?_
                with_reducible refine (warpwrightlaw25_is.calls 1 21 2 t349 t350 t351 t352 _ A29.out).mono ?_
                rintro e w77 ⟨rfl, hb⟩
                refine ⟨_, rfl, ?_⟩
                have n0_ := Aside0.mk (bb_ BK324 hb)
                have n1_ := Aside0.mk (bb_ BK325 hb)
                have n2_ := Aside0.mk (below_step (bl_ HB) hb)
                clear BK324
                clear BK325
                clear HB
                have BK324 := n0_
                have BK325 := n1_
                have HB := n2_
                clear n0_ n1_ n2_
                (try clear hb)
                (try clear hb2)
                (try clear hk)
                (try clear hi)
                refine hK.out _ _ ⟨(blk_cell BK324.out 0).trans rfl, (blk_cell BK324.out 1).trans rfl, (blk_cell BK324.out 2).trans rfl, (blk_cell BK325.out 0).trans rfl, (blk_cell BK325.out 1).trans rfl, (blk_cell BK325.out 2).trans rfl⟩ (fun hHeld => ?_)
                clear hK K
                refine norm_ (a' := ?_) ?_ ?_
                rotate_left
                ·show Act.put _ (some 57) _ = _
                 simp only [Act.put, List.setIfInBounds_toArray, List.set_cons_zero, List.set_cons_succ, i64_w, i32_w]
                 rfl
                refine pure_ (i := 20) (N := some 58) (v := ?_) (a' := ?_) (bm_ 36 2097151) rfl rfl (any_of HT_.out (by kernel_rfl)) (fun _ _ _ h => h) (Or.inl ⟨by rfl, ?_⟩) ?_ ?_
                rotate_left
                ·intro w'
                 go_simp
                 with_reducible rfl
                rotate_left
                ·simp only [Act.put, List.setIfInBounds_toArray, List.set_cons_zero, List.set_cons_succ, i64_w, i32_w]
                 rfl
                refine one_ (i := 21) (N := some 59) (bm_ 36 4194303) rfl rfl (one_of HT_.out (by kernel_rfl)) (by decide) (fun K hK => ?_)
                refine goes_ Try.func14 (by kernel_rfl) rfl #[.agg #[.int .i64 t316, .int .i64 t317, .int .i64 t318], .agg #[.int .i64 t349, .int .i64 t350, .int .i64 t351]] (by rfl) rfl rfl am_ ?_
                with_reducible refine (span_Apart.calls k t316 t317 t318 t349 t350 t351 true _ A30.out).mono ?_
                rintro e w78 ⟨rfl, hb⟩
                refine ⟨_, rfl, ?_⟩
                have n0_ := Aside0.mk (bb_ BK324 hb)
                have n1_ := Aside0.mk (bb_ BK325 hb)
                have n2_ := Aside0.mk (below_step (bl_ HB) hb)
                clear BK324
                clear BK325
                clear HB
                have BK324 := n0_
                have BK325 := n1_
                have HB := n2_
                clear n0_ n1_ n2_
                (try clear hb)
                (try clear hb2)
                (try clear hk)
                (try clear hi)
                refine hK.out _ _ ⟨(blk_cell BK324.out 0).trans rfl, (blk_cell BK324.out 1).trans rfl, (blk_cell BK324.out 2).trans rfl, (blk_cell BK325.out 0).trans rfl, (blk_cell BK325.out 1).trans rfl, (blk_cell BK325.out 2).trans rfl⟩ (fun hHeld => ?_)
                clear hK K
                refine norm_ (a' := ?_) ?_ ?_
                rotate_left
                ·show Act.put _ (some 59) _ = _
                 simp only [Act.put, List.setIfInBounds_toArray, List.set_cons_zero, List.set_cons_succ, i64_w, i32_w]
                 rfl
                refine pure_ (i := 22) (N := some 60) (v := ?_) (a' := ?_) (bm_ 36 8388607) rfl rfl (any_of HT_.out (by kernel_rfl)) (fun _ _ _ h => h) (Or.inl ⟨by rfl, ?_⟩) ?_ ?_
                rotate_left
                ·intro w'
                 go_simp
                 with_reducible rfl
                rotate_left
                ·simp only [Act.put, List.setIfInBounds_toArray, List.set_cons_zero, List.set_cons_succ, i64_w, i32_w]
                 rfl
                refine pure_ (i := 23) (N := some 61) (v := ?_) (a' := ?_) (bm_ 36 16777215) rfl rfl (any_of HT_.out (by kernel_rfl)) (fun _ _ _ h => h) (Or.inl ⟨by rfl, ?_⟩) ?_ ?_
                rotate_left
                ·intro w'
                 go_simp
                 with_reducible rfl
                rotate_left
                ·simp only [Act.put, List.setIfInBounds_toArray, List.set_cons_zero, List.set_cons_succ, i64_w, i32_w]
                 rfl
                refine pure_ (i := 24) (N := some 62) (v := ?_) (a' := ?_) (bm_ 36 33554431) rfl rfl (any_of HT_.out (by kernel_rfl)) (fun _ _ _ h => h) (Or.inl ⟨by rfl, ?_⟩) ?_ ?_
                rotate_left
                ·intro w'
                 go_simp
                 with_reducible rfl
                rotate_left
                ·simp only [Act.put, List.setIfInBounds_toArray, List.set_cons_zero, List.set_cons_succ, i64_w, i32_w]
                 rfl
                refine take_ (i := 25) (N := some 63) (v := ?_) (a' := ?_) (bm_ 36 67108863) rfl rfl (take_ofW HT_.out HW_.out (by kernel_rfl)) (fun _ _ _ h => h) (Or.inl ⟨by rfl, ?_⟩) hHeld ?_ ?_
                rotate_left
                ·rintro w' ⟨s0, s1, s2, s3, s4, s5⟩
                 go_simp
                 with_reducible rfl
                rotate_left
                ·simp only [Act.put, List.setIfInBounds_toArray, List.set_cons_zero, List.set_cons_succ, i64_w, i32_w]
                 rfl
                refine take_ (i := 26) (N := some 64) (v := ?_) (a' := ?_) (bm_ 36 134217727) rfl rfl (take_ofW HT_.out HW_.out (by kernel_rfl)) (fun _ _ _ h => h) (Or.inl ⟨by rfl, ?_⟩) hHeld ?_ ?_
                rotate_left
                ·rintro w' ⟨s0, s1, s2, s3, s4, s5⟩
                 go_simp
                 with_reducible rfl
                rotate_left
                ·simp only [Act.put, List.setIfInBounds_toArray, List.set_cons_zero, List.set_cons_succ, i64_w, i32_w]
                 rfl
                refine one_ (i := 27) (N := some 65) (bm_ 36 268435455) rfl rfl (one_of HT_.out (by kernel_rfl)) (by decide) (fun K hK => ?_)
                refine goes_ Try.func14 (by kernel_rfl) rfl #[.agg #[.int .i64 t316, .int .i64 t317, .int .i64 t318], .agg #[.int .i64 t320, .int .i64 t321, .int .i64 t322]] (by rfl) rfl rfl am_ ?_
                with_reducible refine (span_Apart.calls k t316 t317 t318 t320 t321 t322 false _ A32.out).mono ?_
                rintro e w79 ⟨rfl, hb⟩
                refine ⟨_, rfl, ?_⟩
                have n0_ := Aside0.mk (bb_ BK324 hb)
                have n1_ := Aside0.mk (bb_ BK325 hb)
                have n2_ := Aside0.mk (below_step (bl_ HB) hb)
                clear BK324
                clear BK325
                clear HB
                have BK324 := n0_
                have BK325 := n1_
                have HB := n2_
                clear n0_ n1_ n2_
                (try clear hb)
                (try clear hb2)
                (try clear hk)
                (try clear hi)
                refine hK.out _ _ ⟨(blk_cell BK324.out 0).trans rfl, (blk_cell BK324.out 1).trans rfl, (blk_cell BK324.out 2).trans rfl, (blk_cell BK325.out 0).trans rfl, (blk_cell BK325.out 1).trans rfl, (blk_cell BK325.out 2).trans rfl⟩ (fun hHeld => ?_)
                clear hK K
                refine norm_ (a' := ?_) ?_ ?_
                rotate_left
                ·show Act.put _ (some 65) _ = _
                 simp only [Act.put, List.setIfInBounds_toArray, List.set_cons_zero, List.set_cons_succ, i64_w, i32_w]
                 rfl
                refine pure_ (i := 28) (N := some 66) (v := ?_) (a' := ?_) (bm_ 36 536870911) rfl rfl (any_of HT_.out (by kernel_rfl)) (fun _ _ _ h => h) (Or.inl ⟨by rfl, ?_⟩) ?_ ?_
                rotate_left
                ·intro w'
                 go_simp
                 with_reducible rfl
                rotate_left
                ·simp only [Act.put, List.setIfInBounds_toArray, List.set_cons_zero, List.set_cons_succ, i64_w, i32_w]
                 rfl
                refine pure_ (i := 29) (N := some 67) (v := ?_) (a' := ?_) (bm_ 36 1073741823) rfl rfl (any_of HT_.out (by kernel_rfl)) (fun _ _ _ h => h) (Or.inl ⟨by rfl, ?_⟩) ?_ ?_
                rotate_left
                ·intro w'
                 go_simp
                 with_reducible rfl
                rotate_left
                ·simp only [Act.put, List.setIfInBounds_toArray, List.set_cons_zero, List.set_cons_succ, i64_w, i32_w]
                 rfl
                refine one_ (i := 30) (N := some 68) (bm_ 36 2147483647) rfl rfl (one_of HT_.out (by kernel_rfl)) (by decide) (fun K hK => ?_)
                refine goes_ Try.func40 (by kernel_rfl) rfl #[.int .i64 5, .int .i64 29, .int .i64 12] (by rfl) rfl rfl am_ ?_
                with_reducible refine (warpwrightlaw25_is.calls 5 29 12 t355 t356 t357 t358 _ A34.out).mono ?_
                rintro e w80 ⟨rfl, hb⟩
                refine ⟨_, rfl, ?_⟩
                have n0_ := Aside0.mk (bb_ BK324 hb)
                have n1_ := Aside0.mk (bb_ BK325 hb)
                have n2_ := Aside0.mk (below_step (bl_ HB) hb)
                clear BK324
                clear BK325
                clear HB
                have BK324 := n0_
                have BK325 := n1_
                have HB := n2_
                clear n0_ n1_ n2_
                (try clear hb)
                (try clear hb2)
                (try clear hk)
                (try clear hi)
                refine hK.out _ _ ⟨(blk_cell BK324.out 0).trans rfl, (blk_cell BK324.out 1).trans rfl, (blk_cell BK324.out 2).trans rfl, (blk_cell BK325.out 0).trans rfl, (blk_cell BK325.out 1).trans rfl, (blk_cell BK325.out 2).trans rfl⟩ (fun hHeld => ?_)
                clear hK K
                refine norm_ (a' := ?_) ?_ ?_
                rotate_left
                ·show Act.put _ (some 68) _ = _
                 simp only [Act.put, List.setIfInBounds_toArray, List.set_cons_zero, List.set_cons_succ, i64_w, i32_w]
                 rfl
                refine pure_ (i := 31) (N := some 69) (v := ?_) (a' := ?_) (bm_ 36 4294967295) rfl rfl (any_of HT_.out (by kernel_rfl)) (fun _ _ _ h => h) (Or.inl ⟨by rfl, ?_⟩) ?_ ?_
                rotate_left
                ·intro w'
                 go_simp
                 with_reducible rfl
                rotate_left
                ·simp only [Act.put, List.setIfInBounds_toArray, List.set_cons_zero, List.set_cons_succ, i64_w, i32_w]
                 rfl
                refine one_ (i := 32) (N := some 70) (bm_ 36 8589934591) rfl rfl (one_of HT_.out (by kernel_rfl)) (by decide) (fun K hK => ?_)
                refine goes_ Try.func22 (by kernel_rfl) rfl #[.agg #[.int .i64 t355, .int .i64 t356, .int .i64 t357], .int .i64 8] (by rfl) rfl rfl am_ ?_
                with_reducible refine (warpwrightlaw25_mod.calls k t355 t356 t357 8 t359 t360 t361 t362 _ A35.out).mono ?_
                rintro e w81 ⟨rfl, hb⟩
                refine ⟨_, rfl, ?_⟩
                have n0_ := Aside0.mk (bb_ BK324 hb)
                have n1_ := Aside0.mk (bb_ BK325 hb)
                have n2_ := Aside0.mk (below_step (bl_ HB) hb)
                clear BK324
                clear BK325
                clear HB
                have BK324 := n0_
                have BK325 := n1_
                have HB := n2_
                clear n0_ n1_ n2_
                (try clear hb)
                (try clear hb2)
                (try clear hk)
                (try clear hi)
                refine hK.out _ _ ⟨(blk_cell BK324.out 0).trans rfl, (blk_cell BK324.out 1).trans rfl, (blk_cell BK324.out 2).trans rfl, (blk_cell BK325.out 0).trans rfl, (blk_cell BK325.out 1).trans rfl, (blk_cell BK325.out 2).trans rfl⟩ (fun hHeld => ?_)
                clear hK K
                refine norm_ (a' := ?_) ?_ ?_
                rotate_left
                ·show Act.put _ (some 70) _ = _
                 simp only [Act.put, List.setIfInBounds_toArray, List.set_cons_zero, List.set_cons_succ, i64_w, i32_w]
                 rfl
                refine one_ (i := 33) (N := some 71) (bm_ 36 17179869183) rfl rfl (one_of HT_.out (by kernel_rfl)) (by decide) (fun K hK => ?_)
                refine goes_ Try.func40 (by kernel_rfl) rfl #[.int .i64 1, .int .i64 5, .int .i64 4] (by rfl) rfl rfl am_ ?_
                with_reducible refine (warpwrightlaw25_is.calls 1 5 4 t363 t364 t365 t366 _ A36.out).mono ?_
                rintro e w82 ⟨rfl, hb⟩
                refine ⟨_, rfl, ?_⟩
                have n0_ := Aside0.mk (bb_ BK324 hb)
                have n1_ := Aside0.mk (bb_ BK325 hb)
                have n2_ := Aside0.mk (below_step (bl_ HB) hb)
                clear BK324
                clear BK325
                clear HB
                have BK324 := n0_
                have BK325 := n1_
                have HB := n2_
                clear n0_ n1_ n2_
                (try clear hb)
                (try clear hb2)
                (try clear hk)
                (try clear hi)
                refine hK.out _ _ ⟨(blk_cell BK324.out 0).trans rfl, (blk_cell BK324.out 1).trans rfl, (blk_cell BK324.out 2).trans rfl, (blk_cell BK325.out 0).trans rfl, (blk_cell BK325.out 1).trans rfl, (blk_cell BK325.out 2).trans rfl⟩ (fun hHeld => ?_)
                clear hK K
                refine norm_ (a' := ?_) ?_ ?_
                rotate_left
                ·show Act.put _ (some 71) _ = _
                 simp only [Act.put, List.setIfInBounds_toArray, List.set_cons_zero, List.set_cons_succ, i64_w, i32_w]
                 rfl
                refine pure_ (i := 34) (N := some 72) (v := ?_) (a' := ?_) (bm_ 36 34359738367) rfl rfl (any_of HT_.out (by kernel_rfl)) (fun _ _ _ h => h) (Or.inl ⟨by rfl, ?_⟩) ?_ ?_
                rotate_left
                ·intro w'
                 go_simp
                 with_reducible rfl
                rotate_left
                ·simp only [Act.put, List.setIfInBounds_toArray, List.set_cons_zero, List.set_cons_succ, i64_w, i32_w]
                 rfl
                refine pure_ (i := 35) (N := some 73) (v := ?_) (a' := ?_) (bm_ 36 68719476735) rfl rfl (any_of HT_.out (by kernel_rfl)) (fun _ _ _ h => h) (Or.inl ⟨by rfl, ?_⟩) ?_ ?_
                rotate_left
                ·intro w'
                 go_simp
                 with_reducible rfl
                rotate_left
                ·simp only [Act.put, List.setIfInBounds_toArray, List.set_cons_zero, List.set_cons_succ, i64_w, i32_w]
                 rfl
                refine done_ (done_of HT_.out (by kernel_rfl)) ?_
                have hcz83_0 : w82.cell? ⟨gb324, 0, none⟩ = some (.int .i64 t316) := (blk_cell BK324.out 0).trans rfl
                have hcz83_1 : w82.cell? ⟨gb324, 1, none⟩ = some (.int .i64 t317) := (blk_cell BK324.out 1).trans rfl
                have hcz83_2 : w82.cell? ⟨gb324, 2, none⟩ = some (.int .i64 t318) := (blk_cell BK324.out 2).trans rfl
                have hfz83_0 := blk_frozen BK324.out 0
                have hfz83_1 := blk_frozen BK324.out 1
                have hfz83_2 := blk_frozen BK324.out 2
                try go_wp2_with (first | ((with_reducible refine gate_callee (f := 15) rfl ?_); refine goesL_ (some 75) rfl rfl Try.func15 (by kernel_rfl) rfl #[.agg #[.int .i64 t316, .int .i64 t317, .int .i64 t318]] rfl am_ ?_; (with_reducible refine (span_Valid.calls k t316 t317 t318 true _ A38.out).mono ?_); rintro e w84 ⟨rfl, hb⟩; refine ⟨_, rfl, ?_⟩; have n0_ := Aside0.mk (bb_ BK324 hb); have n1_ := Aside0.mk (bb_ BK325 hb); have n2_ := Aside0.mk (below_step (bl_ HB) hb); clear BK324; clear BK325; clear HB; have BK324 := n0_; have BK325 := n1_; have HB := n2_; clear n0_ n1_ n2_; (try clear hb); (try clear hb2); (try clear hk); (try clear hi)) | (go_at_call 15; (with_reducible refine (span_Valid.calls k 0 5 2 false _ A40.out).mono ?_); rintro e w85 ⟨rfl, hb⟩; have n0_ := Aside0.mk (bb_ BK324 hb); have n1_ := Aside0.mk (bb_ BK325 hb); have n2_ := Aside0.mk (below_step (bl_ HB) hb); clear BK324; clear BK325; clear HB; have BK324 := n0_; have BK325 := n1_; have HB := n2_; clear n0_ n1_ n2_; (try clear hb); (try clear hb2); (try clear hk); (try clear hi); have hcz86_0 : w85.cell? ⟨gb324, 0, none⟩ = some (.int .i64 t316) := (blk_cell BK324.out 0).trans rfl; have hcz86_1 : w85.cell? ⟨gb324, 1, none⟩ = some (.int .i64 t317) := (blk_cell BK324.out 1).trans rfl; have hcz86_2 : w85.cell? ⟨gb324, 2, none⟩ = some (.int .i64 t318) := (blk_cell BK324.out 2).trans rfl; have hfz86_0 := blk_frozen BK324.out 0; have hfz86_1 := blk_frozen BK324.out 1; have hfz86_2 := blk_frozen BK324.out 2) | (go_at_call 13; (with_reducible refine (span_Has.calls t316 t317 t318 8 true _ A42.out).mono ?_); rintro e w87 ⟨rfl, hb⟩; have n0_ := Aside0.mk (bb_ BK324 hb); have n1_ := Aside0.mk (bb_ BK325 hb); have n2_ := Aside0.mk (below_step (bl_ HB) hb); clear BK324; clear BK325; clear HB; have BK324 := n0_; have BK325 := n1_; have HB := n2_; clear n0_ n1_ n2_; (try clear hb); (try clear hb2); (try clear hk); (try clear hi); have hcz88_0 : w87.cell? ⟨gb324, 0, none⟩ = some (.int .i64 t316) := (blk_cell BK324.out 0).trans rfl; have hcz88_1 : w87.cell? ⟨gb324, 1, none⟩ = some (.int .i64 t317) := (blk_cell BK324.out 1).trans rfl; have hcz88_2 : w87.cell? ⟨gb324, 2, none⟩ = some (.int .i64 t318) := (blk_cell BK324.out 2).trans rfl; have hfz88_0 := blk_frozen BK324.out 0; have hfz88_1 := blk_frozen BK324.out 1; have hfz88_2 := blk_frozen BK324.out 2) | (go_at_call 13; (with_reducible refine (span_Has.calls t316 t317 t318 6 false _ A44.out).mono ?_); rintro e w89 ⟨rfl, hb⟩; have n0_ := Aside0.mk (bb_ BK324 hb); have n1_ := Aside0.mk (bb_ BK325 hb); have n2_ := Aside0.mk (below_step (bl_ HB) hb); clear BK324; clear BK325; clear HB; have BK324 := n0_; have BK325 := n1_; have HB := n2_; clear n0_ n1_ n2_; (try clear hb); (try clear hb2); (try clear hk); (try clear hi); have hcz90_0 : w89.cell? ⟨gb324, 0, none⟩ = some (.int .i64 t316) := (blk_cell BK324.out 0).trans rfl; have hcz90_1 : w89.cell? ⟨gb324, 1, none⟩ = some (.int .i64 t317) := (blk_cell BK324.out 1).trans rfl; have hcz90_2 : w89.cell? ⟨gb324, 2, none⟩ = some (.int .i64 t318) := (blk_cell BK324.out 2).trans rfl; have hfz90_0 := blk_frozen BK324.out 0; have hfz90_1 := blk_frozen BK324.out 1; have hfz90_2 := blk_frozen BK324.out 2) | (go_at_call 16; (with_reducible refine (span_Size.calls t316 t317 t318 t371 _ A46.out).mono ?_); rintro e w91 ⟨rfl, hb⟩; have n0_ := Aside0.mk (bb_ BK324 hb); have n1_ := Aside0.mk (bb_ BK325 hb); have n2_ := Aside0.mk (below_step (bl_ HB) hb); clear BK324; clear BK325; clear HB; have BK324 := n0_; have BK325 := n1_; have HB := n2_; clear n0_ n1_ n2_; (try clear hb); (try clear hb2); (try clear hk); (try clear hi); have hcz92_0 : w91.cell? ⟨gb324, 0, none⟩ = some (.int .i64 t316) := (blk_cell BK324.out 0).trans rfl; have hcz92_1 : w91.cell? ⟨gb324, 1, none⟩ = some (.int .i64 t317) := (blk_cell BK324.out 1).trans rfl; have hcz92_2 : w91.cell? ⟨gb324, 2, none⟩ = some (.int .i64 t318) := (blk_cell BK324.out 2).trans rfl; have hfz92_0 := blk_frozen BK324.out 0; have hfz92_1 := blk_frozen BK324.out 1; have hfz92_2 := blk_frozen BK324.out 2) | (go_at_call 29; (with_reducible refine (warpwrightlaw25_scale.calls k t316 t317 t318 1099511627776 t372 t373 t374 t375 _ A48.out).mono ?_); rintro e w93 ⟨rfl, hb⟩; have n0_ := Aside0.mk (bb_ BK324 hb); have n1_ := Aside0.mk (bb_ BK325 hb); have n2_ := Aside0.mk (below_step (bl_ HB) hb); clear BK324; clear BK325; clear HB; have BK324 := n0_; have BK325 := n1_; have HB := n2_; clear n0_ n1_ n2_; (try clear hb); (try clear hb2); (try clear hk); (try clear hi)))
                go_ret
                exact ⟨by first | rfl | (simp [errW_none, errW_some] <;> rfl) | (simp [*, errW_none, errW_some] <;> rfl), by repeat (first | (with_reducible first | exact HB.out | apply below_alloc | apply pw_below_drewN | apply below_drew1 | refine below_set ?_ GE324.out | refine below_set ?_ GE325.out) | exact HB.out)⟩
               ·rw [if_neg c47] at H
                exact absurd H (by simp)
             ·replace c43 := Bool.eq_false_iff.mpr c43
              subst c43
              have H1 : (none) = some r := by rw [if_neg (show ¬ (false = true) by decide)] at H; exact H
              clear H
              have H := H1
              clear H1
              exact absurd H (by simp)
           ·replace c39 := Bool.eq_false_iff.mpr c39
            subst c39
            have H1 : (none) = some r := by rw [if_neg (show ¬ (false = true) by decide)] at H; exact H
            clear H
            have H := H1
            clear H1
            exact absurd H (by simp)
        ·replace c31 := Bool.eq_false_iff.mpr c31
         subst c31
         have H1 : (none) = some r := by rw [if_neg (show ¬ (false = true) by decide)] at H; exact H
         clear H
         have H := H1
         clear H1
         exact absurd H (by simp)
   ·rw [if_neg c8] at H
    exact absurd H (by simp)

end Go.Proofs.Yteghmmkhfgkdgaa.QS
