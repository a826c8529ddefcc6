-- Written by a program of this session (pp.py) over the kit's printer; Lean checks it.
import Derived.Test.YteghmmkhfgkdgaaQSx0
import Derived.Test.YteghmmkhfgkdgaaQSx4
import Derived.Test.YteghmmkhfgkdgaaQSx6
import Derived.Test.YteghmmkhfgkdgaaQSx9
import Derived.Test.YteghmmkhfgkdgaaQSx10
import Derived.Test.YteghmmkhfgkdgaaQSx12
namespace Go.Proofs.Yteghmmkhfgkdgaa.QS
open Go.RowKit Go.Proofs.YteghmmkhfgkdgaaW.PrintWords Go.Proofs.YteghmmkhfgkdgaaW.PrintLast Go.Proofs.YteghmmkhfgkdgaaW.PrintMore
attribute [local go_sem] max2_int min2_int max_two min_two max_three min_three max_four min_four   -- for this text's walks alone
set_option linter.unusedVariables false
set_option linter.unusedSimpArgs false

/-! ### warpwrightlaw25_SpanMods: function 6 -/
mutual
def warpwrightlaw25_SpanMods.l0 : Nat → Int → Bool → Int → List Bool → Int → Int → Int → Int → Int → Int → Int → Int → Option (Bool)
 | 0, _, _, _, _, _, _, _, _, _, _, _, _ => none
 | k + 1, x2, x7, x9, x11, x12, x578000, x578001, x578002, x583000, x583001, x583002, x583003 => if x12 ≤ x578001 then (if x9 = 0 then (none) else (if 0 ≤ (Int.tmod (wrap64 ((Int.tmod x12 x9) + x9)) x9) then (if (Int.tmod (wrap64 ((Int.tmod x12 x9) + x9)) x9) < (x11.length : Int) then ((span_Has.f x583000 x583001 x583002 (Int.tmod (wrap64 ((Int.tmod x12 x9) + x9)) x9)).bind fun t588 => (if t588 = true then (warpwrightlaw25_SpanMods.l0 k x2 x7 x9 (x11.set ((Int.tmod (wrap64 ((Int.tmod x12 x9) + x9)) x9) : Int).toNat true) (wrap64 (x12 + (mx x578002 1))) x578000 x578001 x578002 x583000 x583001 x583002 x583003) else (none))) else (none)) else (none))) else (warpwrightlaw25_SpanMods.l1 k x2 x7 x9 x11 0 x578000 x578001 x578002 x583000 x583001 x583002 x583003)
def warpwrightlaw25_SpanMods.l1 : Nat → Int → Bool → Int → List Bool → Int → Int → Int → Int → Int → Int → Int → Int → Option (Bool)
 | 0, _, _, _, _, _, _, _, _, _, _, _, _ => none
 | k + 1, x2, x7, x9, x11, x14, x578000, x578001, x578002, x583000, x583001, x583002, x583003 => if x14 < x9 then ((span_Size.f x578000 x578001 x578002).bind fun t598 => ((span_Size.f x583000 x583001 x583002).bind fun t599 => (if t598 ≥ t599 then ((span_Has.f x583000 x583001 x583002 x14).bind fun t600 => (if 0 ≤ x14 then (if x14 < (x11.length : Int) then (if (t600 != (rdOf false x11 x14)) = true then (none) else (warpwrightlaw25_SpanMods.l1 k x2 x7 x9 x11 (wrap64 (x14 + 1)) x578000 x578001 x578002 x583000 x583001 x583002 x583003)) else (none)) else (none))) else (warpwrightlaw25_SpanMods.l1 k x2 x7 x9 x11 (wrap64 (x14 + 1)) x578000 x578001 x578002 x583000 x583001 x583002 x583003)))) else (if x2 ≥ 1 then ((warpwrightref25_Edge.f).bind fun t589 => ((warpwrightlaw25_mod.f k x578000 x578001 x578002 x2).bind fun bt590 => (if ((decide (x2 ≤ t589)) == (bt590.2.2.2 == 0)) = true then (some x7) else (none)))) else ((warpwrightlaw25_mod.f k x578000 x578001 x578002 x2).bind fun bt594 => (if (false == (bt594.2.2.2 == 0)) = true then (some x7) else (none))))
end
def warpwrightlaw25_SpanMods.f (k : Nat) (a0_0 : Int) (a0_1 : Int) (a0_2 : Int) (a1 : Int) (a2 : Int) : Option (Bool) := (warpwrightlaw25_examples.f k).bind fun t573 => (if t573 = true then ((warpwrightref25_Small.f a0_0 a0_1 a0_2).bind fun bt574 => ((warpwrightlaw25_mod.f k bt574.1 bt574.2.1 bt574.2.2 (wrap64 ((wrap64 (Int.tmod a1 64)) + 1))).bind fun bt578 => (if bt578.2.2.2 = 0 then ((span_Valid.f k bt578.1 bt578.2.1 bt578.2.2.1).bind fun t583 => (if t583 = true then (if bt578.1 < 0 then (none) else (if bt578.2.1 ≥ (wrap64 ((wrap64 (Int.tmod a1 64)) + 1)) then (none) else (if 0 ≤ (wrap64 ((wrap64 (Int.tmod a1 64)) + 1)) then (if (wrap64 ((wrap64 (Int.tmod a1 64)) + 1) : Int).toNat ≤ 281474976710656 then (warpwrightlaw25_SpanMods.l0 k a2 t573 (wrap64 ((wrap64 (Int.tmod a1 64)) + 1)) (List.replicate (wrap64 ((wrap64 (Int.tmod a1 64)) + 1) : Int).toNat false) bt574.1 bt574.1 bt574.2.1 bt574.2.2 bt578.1 bt578.2.1 bt578.2.2.1 bt578.2.2.2) else (none)) else (none)))) else (none))) else (none)))) else (none))
theorem warpwrightlaw25_SpanMods.mono_l : ∀ k, (∀ y0 y1 y2 y3 y4 y5 y6 y7 y8 y9 y10 y11, LeO (warpwrightlaw25_SpanMods.l0 k y0 y1 y2 y3 y4 y5 y6 y7 y8 y9 y10 y11) (warpwrightlaw25_SpanMods.l0 (k + 1) y0 y1 y2 y3 y4 y5 y6 y7 y8 y9 y10 y11)) ∧ (∀ y0 y1 y2 y3 y4 y5 y6 y7 y8 y9 y10 y11, LeO (warpwrightlaw25_SpanMods.l1 k y0 y1 y2 y3 y4 y5 y6 y7 y8 y9 y10 y11) (warpwrightlaw25_SpanMods.l1 (k + 1) y0 y1 y2 y3 y4 y5 y6 y7 y8 y9 y10 y11))
 | 0 => ⟨fun _ _ _ _ _ _ _ _ _ _ _ _ r h => by simp [warpwrightlaw25_SpanMods.l0] at h, fun _ _ _ _ _ _ _ _ _ _ _ _ r h => by simp [warpwrightlaw25_SpanMods.l1] at h⟩
 | k + 1 => by
  obtain ⟨ih0, ih1⟩ := warpwrightlaw25_SpanMods.mono_l k
  refine ⟨?_, ?_⟩
  ·intro y0 y1 y2 y3 y4 y5 y6 y7 y8 y9 y10 y11
   unfold warpwrightlaw25_SpanMods.l0
   repeat' first
   | (with_reducible exact ih0 _ _ _ _ _ _ _ _ _ _ _ _)
   | (with_reducible exact ih1 _ _ _ _ _ _ _ _ _ _ _ _)
   | (with_reducible exact span_Valid.mono _ _ _ _)
   | (with_reducible exact warpwrightlaw25_examples.mono _)
   | (with_reducible exact warpwrightlaw25_mod.mono _ _ _ _ _)
   | (with_reducible exact LeO.refl _)
   | (with_reducible exact LeO.none _)
   | (with_reducible refine LeO.ite ?_ ?_)
   | (with_reducible refine LeO.bind ?_ (fun _ => ?_))
   | exact ih0 _ _ _ _ _ _ _ _ _ _ _ _
   | exact ih1 _ _ _ _ _ _ _ _ _ _ _ _
   | exact span_Valid.mono _ _ _ _
   | exact warpwrightlaw25_examples.mono _
   | exact warpwrightlaw25_mod.mono _ _ _ _ _
   | exact LeO.none _
   | refine LeO.ite ?_ ?_
   | refine LeO.bind ?_ (fun _ => ?_)
  ·intro y0 y1 y2 y3 y4 y5 y6 y7 y8 y9 y10 y11
   unfold warpwrightlaw25_SpanMods.l1
   repeat' first
   | (with_reducible exact ih0 _ _ _ _ _ _ _ _ _ _ _ _)
   | (with_reducible exact ih1 _ _ _ _ _ _ _ _ _ _ _ _)
   | (with_reducible exact span_Valid.mono _ _ _ _)
   | (with_reducible exact warpwrightlaw25_examples.mono _)
   | (with_reducible exact warpwrightlaw25_mod.mono _ _ _ _ _)
   | (with_reducible exact LeO.refl _)
   | (with_reducible exact LeO.none _)
   | (with_reducible refine LeO.ite ?_ ?_)
   | (with_reducible refine LeO.bind ?_ (fun _ => ?_))
   | exact ih0 _ _ _ _ _ _ _ _ _ _ _ _
   | exact ih1 _ _ _ _ _ _ _ _ _ _ _ _
   | exact span_Valid.mono _ _ _ _
   | exact warpwrightlaw25_examples.mono _
   | exact warpwrightlaw25_mod.mono _ _ _ _ _
   | exact LeO.none _
   | refine LeO.ite ?_ ?_
   | refine LeO.bind ?_ (fun _ => ?_)
theorem warpwrightlaw25_SpanMods.mono : ∀ a0 a1 a2 a3 a4 k, LeO (warpwrightlaw25_SpanMods.f k a0 a1 a2 a3 a4) (warpwrightlaw25_SpanMods.f (k + 1) a0 a1 a2 a3 a4) := by
 intro a0 a1 a2 a3 a4 k
 obtain ⟨ih0, ih1⟩ := warpwrightlaw25_SpanMods.mono_l k
 unfold warpwrightlaw25_SpanMods.f
 repeat' first
   | (with_reducible exact ih0 _ _ _ _ _ _ _ _ _ _ _ _)
   | (with_reducible exact ih1 _ _ _ _ _ _ _ _ _ _ _ _)
   | (with_reducible exact span_Valid.mono _ _ _ _)
   | (with_reducible exact warpwrightlaw25_examples.mono _)
   | (with_reducible exact warpwrightlaw25_mod.mono _ _ _ _ _)
   | (with_reducible exact LeO.refl _)
   | (with_reducible exact LeO.none _)
   | (with_reducible refine LeO.ite ?_ ?_)
   | (with_reducible refine LeO.bind ?_ (fun _ => ?_))
   | exact ih0 _ _ _ _ _ _ _ _ _ _ _ _
   | exact ih1 _ _ _ _ _ _ _ _ _ _ _ _
   | exact span_Valid.mono _ _ _ _
   | exact warpwrightlaw25_examples.mono _
   | exact warpwrightlaw25_mod.mono _ _ _ _ _
   | exact LeO.none _
   | refine LeO.ite ?_ ?_
   | refine LeO.bind ?_ (fun _ => ?_)
def warpwrightlaw25_SpanMods.T19 : Bool × List (List Nat × List Nat) := (true, [([], []), ([0], [0]), ([], []), ([2], [2]), ([3, 1], [3]), ([1, 4], [1, 4]), ([5, 4], [5]), ([6], [6]), ([7, 6], [6, 7]), ([6], [6]), ([8, 9, 6, 6], [6, 8, 9]), ([6], [6]), ([6], [6]), ([11, 12, 6], [6, 11, 12]), ([13, 6], [6, 13]), ([10, 14, 6], [6, 10, 14]), ([6, 15], [6, 15])])
def warpwrightlaw25_SpanMods.B19 : List Nat := [0, 1, 0, 4, 15, 31, 63, 127, 255, 127, 1023, 127, 127, 6271, 14463, 32767, 65535]
theorem warpwrightlaw25_SpanMods.tab19 : rtab .any (opsOf Try.f6 19) = warpwrightlaw25_SpanMods.T19 := by kernel_rfl
theorem warpwrightlaw25_SpanMods.bits19 : waitsOk warpwrightlaw25_SpanMods.T19.2 warpwrightlaw25_SpanMods.B19 = true := by kernel_rfl
def warpwrightlaw25_SpanMods.T21 : Bool × List (List Nat × List Nat) := (true, [([], []), ([0], [0]), ([1], [1]), ([2], [2]), ([2, 2], [2]), ([3, 4, 2], [2, 3, 4]), ([2, 5], [2, 5]), ([], []), ([], []), ([7, 8, 4], [7, 8]), ([9], [9]), ([10], [10]), ([6, 11], [6, 11]), ([12, 9], [12]), ([13], [13]), ([13, 14], [13, 14]), ([15, 13, 0, 1, 2, 3, 4, 5, 6, 7, 8, 9, 10, 11, 12, 13, 14, 15], [15])])
def warpwrightlaw25_SpanMods.B21 : List Nat := [0, 1, 3, 7, 7, 31, 63, 0, 0, 407, 919, 1943, 4095, 8191, 16383, 32767, 65535]
theorem warpwrightlaw25_SpanMods.tab21 : rtab .any (opsOf Try.f6 21) = warpwrightlaw25_SpanMods.T21 := by kernel_rfl
theorem warpwrightlaw25_SpanMods.bits21 : waitsOk warpwrightlaw25_SpanMods.T21.2 warpwrightlaw25_SpanMods.B21 = true := by kernel_rfl
set_option maxHeartbeats 8000000 in
set_option maxRecDepth 100000 in
theorem warpwrightlaw25_SpanMods.calls (k : Nat) (a0_0 : Int) (a0_1 : Int) (a0_2 : Int) (a1 : Int) (a2 : Int) (r : Bool) (w : World) (h : warpwrightlaw25_SpanMods.f k a0_0 a0_1 a0_2 a1 a2 = some r) :
  Calls Try.prog 6 #[.agg #[.int .i64 a0_0, .int .u32 a0_1, .int .u16 a0_2], .int .u8 a1, .int .i64 a2] w fun e w' => e = .returned (.bool r) ∧ Below w.heap.size w w' := by
 have hu25 := Try.underlying25
 have hu28 := Try.underlying28
 have hu43 := Try.underlying43
 have hfd43_1 : ∀ (x0_ x1_ x2_ x3_ : Value) (W_ : World), (Instr.field 43 (.agg #[x0_, x1_, x2_, x3_]) 1).run Try.prog W_ = .ok (x3_) W_ := fun _ _ _ _ _ => by kernel_rfl
 have HB := Aside0.mk (Below.refl w.heap.size w)
 have H : ((warpwrightlaw25_examples.f k).bind fun t573 => (if t573 = true then ((warpwrightref25_Small.f a0_0 a0_1 a0_2).bind fun bt574 => ((warpwrightlaw25_mod.f k bt574.1 bt574.2.1 bt574.2.2 (wrap64 ((wrap64 (Int.tmod a1 64)) + 1))).bind fun bt578 => (if bt578.2.2.2 = 0 then ((span_Valid.f k bt578.1 bt578.2.1 bt578.2.2.1).bind fun t583 => (if t583 = true then (if bt578.1 < 0 then (none) else (if bt578.2.1 ≥ (wrap64 ((wrap64 (Int.tmod a1 64)) + 1)) then (none) else (if 0 ≤ (wrap64 ((wrap64 (Int.tmod a1 64)) + 1)) then (if (wrap64 ((wrap64 (Int.tmod a1 64)) + 1) : Int).toNat ≤ 281474976710656 then (warpwrightlaw25_SpanMods.l0 k a2 t573 (wrap64 ((wrap64 (Int.tmod a1 64)) + 1)) (List.replicate (wrap64 ((wrap64 (Int.tmod a1 64)) + 1) : Int).toNat false) bt574.1 bt574.1 bt574.2.1 bt574.2.2 bt578.1 bt578.2.1 bt578.2.2.1 bt578.2.2.2) else (none)) else (none)))) else (none))) else (none)))) else (none))) = some r := h
 clear h
 replace H := Option.bind_eq_some_iff.mp H
 obtain ⟨t573, A40, H⟩ := H
 replace H : (if t573 = true then ((warpwrightref25_Small.f a0_0 a0_1 a0_2).bind fun bt574 => ((warpwrightlaw25_mod.f k bt574.1 bt574.2.1 bt574.2.2 (wrap64 ((wrap64 (Int.tmod a1 64)) + 1))).bind fun bt578 => (if bt578.2.2.2 = 0 then ((span_Valid.f k bt578.1 bt578.2.1 bt578.2.2.1).bind fun t583 => (if t583 = true then (if bt578.1 < 0 then (none) else (if bt578.2.1 ≥ (wrap64 ((wrap64 (Int.tmod a1 64)) + 1)) then (none) else (if 0 ≤ (wrap64 ((wrap64 (Int.tmod a1 64)) + 1)) then (if (wrap64 ((wrap64 (Int.tmod a1 64)) + 1) : Int).toNat ≤ 281474976710656 then (warpwrightlaw25_SpanMods.l0 k a2 t573 (wrap64 ((wrap64 (Int.tmod a1 64)) + 1)) (List.replicate (wrap64 ((wrap64 (Int.tmod a1 64)) + 1) : Int).toNat false) bt574.1 bt574.1 bt574.2.1 bt574.2.2 bt578.1 bt578.2.1 bt578.2.2.1 bt578.2.2.2) else (none)) else (none)))) else (none))) else (none)))) else (none)) = some r := H
 have A4 := Aside0.mk A40
 clear A40
 by_cases c5 : t573 = true
 ·subst c5
  have H1 : ((warpwrightref25_Small.f a0_0 a0_1 a0_2).bind fun bt574 => ((warpwrightlaw25_mod.f k bt574.1 bt574.2.1 bt574.2.2 (wrap64 ((wrap64 (Int.tmod a1 64)) + 1))).bind fun bt578 => (if bt578.2.2.2 = 0 then ((span_Valid.f k bt578.1 bt578.2.1 bt578.2.2.1).bind fun t583 => (if t583 = true then (if bt578.1 < 0 then (none) else (if bt578.2.1 ≥ (wrap64 ((wrap64 (Int.tmod a1 64)) + 1)) then (none) else (if 0 ≤ (wrap64 ((wrap64 (Int.tmod a1 64)) + 1)) then (if (wrap64 ((wrap64 (Int.tmod a1 64)) + 1) : Int).toNat ≤ 281474976710656 then (warpwrightlaw25_SpanMods.l0 k a2 true (wrap64 ((wrap64 (Int.tmod a1 64)) + 1)) (List.replicate (wrap64 ((wrap64 (Int.tmod a1 64)) + 1) : Int).toNat false) bt574.1 bt574.1 bt574.2.1 bt574.2.2 bt578.1 bt578.2.1 bt578.2.2.1 bt578.2.2.2) else (none)) else (none)))) else (none))) else (none)))) = some r := by rw [if_pos rfl] at H; exact H
  clear H
  have H := H1
  clear H1
  replace H := Option.bind_eq_some_iff.mp H
  obtain ⟨⟨t574, t575, t576⟩, A60, H⟩ := H
  replace H : ((warpwrightlaw25_mod.f k t574 t575 t576 (wrap64 ((wrap64 (Int.tmod a1 64)) + 1))).bind fun bt578 => (if bt578.2.2.2 = 0 then ((span_Valid.f k bt578.1 bt578.2.1 bt578.2.2.1).bind fun t583 => (if t583 = true then (if bt578.1 < 0 then (none) else (if bt578.2.1 ≥ (wrap64 ((wrap64 (Int.tmod a1 64)) + 1)) then (none) else (if 0 ≤ (wrap64 ((wrap64 (Int.tmod a1 64)) + 1)) then (if (wrap64 ((wrap64 (Int.tmod a1 64)) + 1) : Int).toNat ≤ 281474976710656 then (warpwrightlaw25_SpanMods.l0 k a2 true (wrap64 ((wrap64 (Int.tmod a1 64)) + 1)) (List.replicate (wrap64 ((wrap64 (Int.tmod a1 64)) + 1) : Int).toNat false) t574 t574 t575 t576 bt578.1 bt578.2.1 bt578.2.2.1 bt578.2.2.2) else (none)) else (none)))) else (none))) else (none))) = some r := H
  have A6 := Aside0.mk A60
  clear A60
  replace H := Option.bind_eq_some_iff.mp H
  obtain ⟨⟨t578, t579, t580, t581⟩, A70, H⟩ := H
  replace H : (if t581 = 0 then ((span_Valid.f k t578 t579 t580).bind fun t583 => (if t583 = true then (if t578 < 0 then (none) else (if t579 ≥ (wrap64 ((wrap64 (Int.tmod a1 64)) + 1)) then (none) else (if 0 ≤ (wrap64 ((wrap64 (Int.tmod a1 64)) + 1)) then (if (wrap64 ((wrap64 (Int.tmod a1 64)) + 1) : Int).toNat ≤ 281474976710656 then (warpwrightlaw25_SpanMods.l0 k a2 true (wrap64 ((wrap64 (Int.tmod a1 64)) + 1)) (List.replicate (wrap64 ((wrap64 (Int.tmod a1 64)) + 1) : Int).toNat false) t574 t574 t575 t576 t578 t579 t580 t581) else (none)) else (none)))) else (none))) else (none)) = some r := H
  have A7 := Aside0.mk A70
  clear A70
  by_cases c8 : t581 = 0
  ·rw [if_pos c8] at H
   have c8b0 : (t581 == 0) = true := beq_iff_eq.mpr c8
   have c8b1 : (t581 != 0) = false := bne_eq_false_iff_eq.mpr c8
   clear c8
   replace H := Option.bind_eq_some_iff.mp H
   obtain ⟨t583, A90, H⟩ := H
   replace H : (if t583 = true then (if t578 < 0 then (none) else (if t579 ≥ (wrap64 ((wrap64 (Int.tmod a1 64)) + 1)) then (none) else (if 0 ≤ (wrap64 ((wrap64 (Int.tmod a1 64)) + 1)) then (if (wrap64 ((wrap64 (Int.tmod a1 64)) + 1) : Int).toNat ≤ 281474976710656 then (warpwrightlaw25_SpanMods.l0 k a2 true (wrap64 ((wrap64 (Int.tmod a1 64)) + 1)) (List.replicate (wrap64 ((wrap64 (Int.tmod a1 64)) + 1) : Int).toNat false) t574 t574 t575 t576 t578 t579 t580 t581) else (none)) else (none)))) else (none)) = some r := H
   have A9 := Aside0.mk A90
   clear A90
   by_cases c10 : t583 = true
   ·subst c10
    have H1 : (if t578 < 0 then (none) else (if t579 ≥ (wrap64 ((wrap64 (Int.tmod a1 64)) + 1)) then (none) else (if 0 ≤ (wrap64 ((wrap64 (Int.tmod a1 64)) + 1)) then (if (wrap64 ((wrap64 (Int.tmod a1 64)) + 1) : Int).toNat ≤ 281474976710656 then (warpwrightlaw25_SpanMods.l0 k a2 true (wrap64 ((wrap64 (Int.tmod a1 64)) + 1)) (List.replicate (wrap64 ((wrap64 (Int.tmod a1 64)) + 1) : Int).toNat false) t574 t574 t575 t576 t578 t579 t580 t581) else (none)) else (none)))) = some r := by rw [if_pos rfl] at H; exact H
    clear H
    have H := H1
    clear H1
    by_cases c11 : t578 < 0
    ·rw [if_pos c11] at H
     exact absurd H (by simp)
    ·rw [if_neg c11] at H
     have c11b0 : decide (t578 < 0) = false := decide_eq_false c11
     clear c11
     by_cases c12 : t579 ≥ (wrap64 ((wrap64 (Int.tmod a1 64)) + 1))
     ·rw [if_pos c12] at H
      exact absurd H (by simp)
     ·rw [if_neg c12] at H
      have c12b0 : decide ((wrap64 ((wrap64 (Int.tmod a1 64)) + 1)) ≤ t579) = false := decide_eq_false c12
      clear c12
      obtain ⟨ji13, hji13⟩ : ∃ j_ : Int, (wrap64 ((wrap64 (Int.tmod a1 64)) + 1)) = j_ := ⟨_, rfl⟩
      replace H : (if 0 ≤ (ji13) then (if (ji13 : Int).toNat ≤ 281474976710656 then (warpwrightlaw25_SpanMods.l0 k a2 true ji13 (List.replicate (ji13 : Int).toNat false) t574 t574 t575 t576 t578 t579 t580 t581) else (none)) else (none)) = some r := by first | (rw [hji13] at H; exact H) | (simp only [hji13] at H ⊢; exact H)
      (try rw [hji13] at c12b0)
      (try rw [hji13] at A4)
      (try rw [hji13] at A6)
      (try rw [hji13] at A7)
      (try rw [hji13] at A9)
      have hji13w : (IntKind.i64.wrap ((wrap64 (Int.tmod a1 64)) + 1)) = ji13 := (i64_w _).trans hji13
      by_cases c14 : 0 ≤ (ji13)
      ·rw [if_pos c14] at H
       have c14b0 := eq_true c14
       have c14b1 : decide (0 ≤ (ji13)) = true := decide_eq_true c14
       clear c14
       by_cases c15 : (ji13 : Int).toNat ≤ 281474976710656
       ·rw [if_pos c15] at H
        have c15b0 := eq_true c15
        have c15b1 : decide ((ji13 : Int).toNat ≤ 281474976710656) = true := decide_eq_true c15
        clear c15
        obtain ⟨y584, hy584⟩ : ∃ y_ : List Bool, y_ = (List.replicate (ji13 : Int).toNat false) := ⟨_, rfl⟩
        replace H : (warpwrightlaw25_SpanMods.l0 k a2 true ji13 y584 t574 t574 t575 t576 t578 t579 t580 t581) = some r := by first | (rw [hy584]; with_reducible exact H) | (have H2_ := (Option.bind_some _ _).symm.trans H; rw [hy584]; with_reducible exact H2_) | (have H2_ := (Option.bind_some _ _).symm.trans H; with_reducible exact H2_) | with_reducible exact H | (rw [hy584]; exact H) | exact H
        have Ny584 := Aside0.mk hy584
        clear hy584
        have H' := Aside0.mk H
        clear H
        go_enter Try.func6, Try.ntmps6
        go_wp2_with (first | ((with_reducible refine gate_dst (N := 3) rfl ?_); refine box_event ?hg (N := 3) ?hd (cs := #[.int .i64 a0_0, .int .u32 a0_1, .int .u16 a0_2]) (t := 25) ?hr ?_; (case hd => rfl); (case hg => rfl); (case hr => first | (go_simp; done) | (go_simp; rfl)); intro gb572 hg w16 hbox hb; have n0_ := Aside0.mk (below_step (bl_ HB) hb); have n1_ := Aside0.mk (hbox); have n2_ := Aside0.mk ((by rw [hg]; exact (below_size (bl_ HB)) : w.heap.size ≤ gb572)); have n3_ := Aside0.mk ((by rw [hg]; exact (below_size (bl_ HB)) : w.heap.size ≤ gb572)); clear HB; have HB := n0_; have BK572 := n1_; have GW572 := n2_; have GE572 := n3_; clear n0_ n1_ n2_ n3_; clear hb hbox hg) | ((with_reducible refine gate_callee (f := 10) rfl ?_); refine goesL_ (some 15) rfl rfl Try.func10 (by kernel_rfl) rfl #[] rfl am_ ?_; (with_reducible refine (warpwrightlaw25_examples.calls k  true _ A4.out).mono ?_); rintro e w17 ⟨rfl, hb⟩; refine ⟨_, rfl, ?_⟩; have n0_ := Aside0.mk (bb_ BK572 hb); have n1_ := Aside0.mk (below_step (bl_ HB) hb); clear BK572; clear HB; have BK572 := n0_; have HB := n1_; clear n0_ n1_; (try clear hb); (try clear hb2); (try clear hk); (try clear hi); have hcz18_0 : w17.cell? ⟨gb572, 0, none⟩ = some (.int .i64 a0_0) := (blk_cell BK572.out 0).trans rfl; have hcz18_1 : w17.cell? ⟨gb572, 1, none⟩ = some (.int .u32 a0_1) := (blk_cell BK572.out 1).trans rfl; have hcz18_2 : w17.cell? ⟨gb572, 2, none⟩ = some (.int .u16 a0_2) := (blk_cell BK572.out 2).trans rfl; have hfz18_0 := blk_frozen BK572.out 0; have hfz18_1 := blk_frozen BK572.out 1; have hfz18_2 := blk_frozen BK572.out 2) | ((with_reducible refine gate_callee (f := 11) rfl ?_); refine goesL_ (some 19) rfl rfl Try.func11 (by kernel_rfl) rfl #[.agg #[.int .i64 a0_0, .int .u32 a0_1, .int .u16 a0_2]] rfl am_ ?_; (with_reducible refine (warpwrightref25_Small.calls a0_0 a0_1 a0_2 t574 t575 t576 _ A6.out).mono ?_); rintro e w19 ⟨rfl, hb⟩; refine ⟨_, rfl, ?_⟩; have n0_ := Aside0.mk (bb_ BK572 hb); have n1_ := Aside0.mk (below_step (bl_ HB) hb); clear BK572; clear HB; have BK572 := n0_; have HB := n1_; clear n0_ n1_; (try clear hb); (try clear hb2); (try clear hk); (try clear hi)) | ((with_reducible refine gate_dst (N := 8) rfl ?_); refine box_event ?hg (N := 8) ?hd (cs := #[.int .i64 0, .int .i64 0, .int .i64 0]) (t := 28) ?hr ?_; (case hd => rfl); (case hg => rfl); (case hr => first | (go_simp; done) | (go_simp; rfl)); intro gb577 hg w20 hbox hb; have n0_ := Aside0.mk (bb_ BK572 hb); have n1_ := Aside0.mk (below_step (bl_ HB) hb); have n2_ := Aside0.mk (hbox); have n3_ := Aside0.mk ((by rw [hg]; exact (below_size (bl_ HB)) : w.heap.size ≤ gb577)); have n4_ := Aside0.mk ((by rw [hg]; exact (below_size (bl_ HB)) : w.heap.size ≤ gb577)); have n5_ := Aside0.mk (nl_ hg BK572); have n6_ := Aside0.mk (ng_ hg BK572); clear BK572; clear HB; have BK572 := n0_; have HB := n1_; have BK577 := n2_; have GW577 := n3_; have GE577 := n4_; have NB572_577 := n5_; have NB577_572 := n6_; clear n0_ n1_ n2_ n3_ n4_ n5_ n6_; clear hb hbox hg; have hnb21 := NB577_572.out; have hnc21 := NB572_577.out; have hcz22_0 : w20.cell? ⟨gb577, 0, none⟩ = some (.int .i64 0) := (blk_cell BK577.out 0).trans rfl; have hcz22_1 : w20.cell? ⟨gb577, 1, none⟩ = some (.int .i64 0) := (blk_cell BK577.out 1).trans rfl; have hcz22_2 : w20.cell? ⟨gb577, 2, none⟩ = some (.int .i64 0) := (blk_cell BK577.out 2).trans rfl; have hfz22_0 := blk_frozen BK577.out 0; have hfz22_1 := blk_frozen BK577.out 1; have hfz22_2 := blk_frozen BK577.out 2) | ((with_reducible refine gate_callee (f := 22) rfl ?_); refine goesL_ (some 26) rfl rfl Try.func22 (by kernel_rfl) rfl #[.agg #[.int .i64 t574, .int .i64 t575, .int .i64 t576], .int .i64 ji13] rfl (by (try simp only [List.map_toArray, List.map_cons, List.map_nil]); first | done | (simp only [hji13]; rfl) | rfl | (simp only [List.length_drop, List.length_take]; rfl)) ?_; (with_reducible refine (warpwrightlaw25_mod.calls k t574 t575 t576 ji13 t578 t579 t580 t581 _ A7.out).mono ?_); rintro e w23 ⟨rfl, hb⟩; refine ⟨_, rfl, ?_⟩; have n0_ := Aside0.mk (blk_below (g := gb572) (o := .cells #[.int .i64 a0_0, .int .u32 a0_1, .int .u16 a0_2] 25 (0, 0)) (by (with_reducible repeat (first | refine blk_drewN ?_ _ | refine blk_drew ?_ | refine blk_alloc ?_ _)); refine blk_far ?_ NB572_577.out _; (with_reducible repeat (first | refine blk_drewN ?_ _ | refine blk_drew ?_ | refine blk_alloc ?_ _)); refine blk_far ?_ NB572_577.out _; (with_reducible repeat (first | refine blk_drewN ?_ _ | refine blk_drew ?_ | refine blk_alloc ?_ _)); refine blk_far ?_ NB572_577.out _; (with_reducible repeat (first | refine blk_drewN ?_ _ | refine blk_drew ?_ | refine blk_alloc ?_ _)); exact BK572.out) hb); have n1_ := Aside0.mk (blk_below (g := gb577) (o := .cells #[.int .i64 t574, .int .i64 t575, .int .i64 t576] 28 (0, 0)) (by (with_reducible repeat (first | refine blk_drewN ?_ _ | refine blk_drew ?_ | refine blk_alloc ?_ _)); refine blk_put (cs := #[.int .i64 t574, .int .i64 t575, .int .i64 0]) ?_ 2 _ rfl; (with_reducible repeat (first | refine blk_drewN ?_ _ | refine blk_drew ?_ | refine blk_alloc ?_ _)); refine blk_put (cs := #[.int .i64 t574, .int .i64 0, .int .i64 0]) ?_ 1 _ rfl; (with_reducible repeat (first | refine blk_drewN ?_ _ | refine blk_drew ?_ | refine blk_alloc ?_ _)); refine blk_put (cs := #[.int .i64 0, .int .i64 0, .int .i64 0]) ?_ 0 _ rfl; (with_reducible repeat (first | refine blk_drewN ?_ _ | refine blk_drew ?_ | refine blk_alloc ?_ _)); exact BK577.out) hb); have n2_ := Aside0.mk (below_step (bl_ HB) hb); clear BK572; clear BK577; clear HB; have BK572 := n0_; have BK577 := n1_; have HB := n2_; clear n0_ n1_ n2_; (try clear hb); (try clear hb2); (try clear hk); (try clear hi)) | ((with_reducible refine gate_dst (N := 10) rfl ?_); refine box_event ?hg (N := 10) ?hd (cs := #[.int .i64 0, .int .i64 0, .int .i64 0, .int .i64 0]) (t := 43) ?hr ?_; (case hd => rfl); (case hg => rfl); (case hr => first | (go_simp; done) | (go_simp; rfl)); intro gb582 hg w24 hbox hb; have n0_ := Aside0.mk (bb_ BK572 hb); have n1_ := Aside0.mk (bb_ BK577 hb); have n2_ := Aside0.mk (below_step (bl_ HB) hb); have n3_ := Aside0.mk (hbox); have n4_ := Aside0.mk ((by rw [hg]; exact (below_size (bl_ HB)) : w.heap.size ≤ gb582)); have n5_ := Aside0.mk ((by rw [hg]; exact (below_size (bl_ HB)) : w.heap.size ≤ gb582)); have n6_ := Aside0.mk (nl_ hg BK572); have n7_ := Aside0.mk (ng_ hg BK572); have n8_ := Aside0.mk (nl_ hg BK577); have n9_ := Aside0.mk (ng_ hg BK577); clear BK572; clear BK577; clear HB; have BK572 := n0_; have BK577 := n1_; have HB := n2_; have BK582 := n3_; have GW582 := n4_; have GE582 := n5_; have NB572_582 := n6_; have NB582_572 := n7_; have NB577_582 := n8_; have NB582_577 := n9_; clear n0_ n1_ n2_ n3_ n4_ n5_ n6_ n7_ n8_ n9_; clear hb hbox hg; have hnb25 := NB582_572.out; have hnc25 := NB572_582.out; have hnb26 := NB582_577.out; have hnc26 := NB577_582.out; have hcz27_0 : w24.cell? ⟨gb582, 0, none⟩ = some (.int .i64 0) := (blk_cell BK582.out 0).trans rfl; have hcz27_1 : w24.cell? ⟨gb582, 1, none⟩ = some (.int .i64 0) := (blk_cell BK582.out 1).trans rfl; have hcz27_2 : w24.cell? ⟨gb582, 2, none⟩ = some (.int .i64 0) := (blk_cell BK582.out 2).trans rfl; have hcz27_3 : w24.cell? ⟨gb582, 3, none⟩ = some (.int .i64 0) := (blk_cell BK582.out 3).trans rfl; have hfz27_0 := blk_frozen BK582.out 0; have hfz27_1 := blk_frozen BK582.out 1; have hfz27_2 := blk_frozen BK582.out 2; have hfz27_3 := blk_frozen BK582.out 3) | (go_at_call 15; (with_reducible refine (span_Valid.calls k t578 t579 t580 true _ A9.out).mono ?_); rintro e w28 ⟨rfl, hb⟩; have n0_ := Aside0.mk (blk_below (g := gb572) (o := .cells #[.int .i64 a0_0, .int .u32 a0_1, .int .u16 a0_2] 25 (0, 0)) (by (with_reducible repeat (first | refine blk_drewN ?_ _ | refine blk_drew ?_ | refine blk_alloc ?_ _)); refine blk_far ?_ NB572_582.out _; (with_reducible repeat (first | refine blk_drewN ?_ _ | refine blk_drew ?_ | refine blk_alloc ?_ _)); refine blk_far ?_ NB572_582.out _; (with_reducible repeat (first | refine blk_drewN ?_ _ | refine blk_drew ?_ | refine blk_alloc ?_ _)); refine blk_far ?_ NB572_582.out _; (with_reducible repeat (first | refine blk_drewN ?_ _ | refine blk_drew ?_ | refine blk_alloc ?_ _)); refine blk_far ?_ NB572_582.out _; (with_reducible repeat (first | refine blk_drewN ?_ _ | refine blk_drew ?_ | refine blk_alloc ?_ _)); exact BK572.out) hb); have n1_ := Aside0.mk (blk_below (g := gb577) (o := .cells #[.int .i64 t574, .int .i64 t575, .int .i64 t576] 28 (0, 0)) (by (with_reducible repeat (first | refine blk_drewN ?_ _ | refine blk_drew ?_ | refine blk_alloc ?_ _)); refine blk_far ?_ NB577_582.out _; (with_reducible repeat (first | refine blk_drewN ?_ _ | refine blk_drew ?_ | refine blk_alloc ?_ _)); refine blk_far ?_ NB577_582.out _; (with_reducible repeat (first | refine blk_drewN ?_ _ | refine blk_drew ?_ | refine blk_alloc ?_ _)); refine blk_far ?_ NB577_582.out _; (with_reducible repeat (first | refine blk_drewN ?_ _ | refine blk_drew ?_ | refine blk_alloc ?_ _)); refine blk_far ?_ NB577_582.out _; (with_reducible repeat (first | refine blk_drewN ?_ _ | refine blk_drew ?_ | refine blk_alloc ?_ _)); exact BK577.out) hb); have n2_ := Aside0.mk (blk_below (g := gb582) (o := .cells #[.int .i64 t578, .int .i64 t579, .int .i64 t580, .int .i64 t581] 43 (0, 0)) (by (with_reducible repeat (first | refine blk_drewN ?_ _ | refine blk_drew ?_ | refine blk_alloc ?_ _)); refine blk_put (cs := #[.int .i64 t578, .int .i64 t579, .int .i64 t580, .int .i64 0]) ?_ 3 _ rfl; (with_reducible repeat (first | refine blk_drewN ?_ _ | refine blk_drew ?_ | refine blk_alloc ?_ _)); refine blk_put (cs := #[.int .i64 t578, .int .i64 t579, .int .i64 0, .int .i64 0]) ?_ 2 _ rfl; (with_reducible repeat (first | refine blk_drewN ?_ _ | refine blk_drew ?_ | refine blk_alloc ?_ _)); refine blk_put (cs := #[.int .i64 t578, .int .i64 0, .int .i64 0, .int .i64 0]) ?_ 1 _ rfl; (with_reducible repeat (first | refine blk_drewN ?_ _ | refine blk_drew ?_ | refine blk_alloc ?_ _)); refine blk_put (cs := #[.int .i64 0, .int .i64 0, .int .i64 0, .int .i64 0]) ?_ 0 _ rfl; (with_reducible repeat (first | refine blk_drewN ?_ _ | refine blk_drew ?_ | refine blk_alloc ?_ _)); exact BK582.out) hb); have n3_ := Aside0.mk (below_step (bl_ HB) hb); clear BK572; clear BK577; clear BK582; clear HB; have BK572 := n0_; have BK577 := n1_; have BK582 := n2_; have HB := n3_; clear n0_ n1_ n2_ n3_; (try clear hb); (try clear hb2); (try clear hk); (try clear hi); have hcz29_0 : w28.cell? ⟨gb582, 0, none⟩ = some (.int .i64 t578) := (blk_cell BK582.out 0).trans rfl; have hcz29_1 : w28.cell? ⟨gb582, 1, none⟩ = some (.int .i64 t579) := (blk_cell BK582.out 1).trans rfl; have hcz29_2 : w28.cell? ⟨gb582, 2, none⟩ = some (.int .i64 t580) := (blk_cell BK582.out 2).trans rfl; have hcz29_3 : w28.cell? ⟨gb582, 3, none⟩ = some (.int .i64 t581) := (blk_cell BK582.out 3).trans rfl; have hfz29_0 := blk_frozen BK582.out 0; have hfz29_1 := blk_frozen BK582.out 1; have hfz29_2 := blk_frozen BK582.out 2; have hfz29_3 := blk_frozen BK582.out 3) | ((with_reducible refine gate_dst (N := 50) rfl ?_); refine Kd.R_make Kd.bool _ 4 rfl (N := 50) rfl 48 _ _ rfl ji13 rfl rfl Try.underlying48 (.bool false) 1 info4 rfl (by decide) (by omega) false (ok := fun _ => True) (okp := fun _ => True) rfl (fun _ hk => hk) trivial (of_decide_eq_true (by first | (with_reducible assumption) | assumption)) (Nat.le_trans (Nat.mul_le_mul_right _ (of_decide_eq_true (by first | (with_reducible assumption) | assumption) : ji13.toNat ≤ 281474976710656)) (by omega)) (Below.refl _ _) (Nat.le_refl _) ?_; intro v585 w30 ho31 hb hg_ hnew_; clear hg_ hnew_; (first | rw [← Ny584.out] at ho31 | (simp only [Int.reduceToNat] at ho31; rw [← Ny584.out] at ho31)); have n0_ := Aside0.mk (Kd.R_lower ho31 (below_size (bl_ HB))); have n1_ := Aside0.mk (bb_ BK572 hb); have n2_ := Aside0.mk (bb_ BK577 hb); have n3_ := Aside0.mk (bb_ BK582 hb); have n4_ := Aside0.mk (below_step (bl_ HB) hb); clear BK572; clear BK577; clear BK582; clear HB; have HO586 := n0_; have BK572 := n1_; have BK577 := n2_; have BK582 := n3_; have HB := n4_; clear n0_ n1_ n2_ n3_ n4_; clear hb ho31; have hcz32_0 : w30.cell? ⟨gb577, 0, none⟩ = some (.int .i64 t574) := (blk_cell BK577.out 0).trans rfl; have hcz32_1 : w30.cell? ⟨gb577, 1, none⟩ = some (.int .i64 t575) := (blk_cell BK577.out 1).trans rfl; have hcz32_2 : w30.cell? ⟨gb577, 2, none⟩ = some (.int .i64 t576) := (blk_cell BK577.out 2).trans rfl; have hfz32_0 := blk_frozen BK577.out 0; have hfz32_1 := blk_frozen BK577.out 1; have hfz32_2 := blk_frozen BK577.out 2))
        go_loopg [12] k (fun kq v12 w' => ∃ (x11_1 : List Bool) (x12_1 : Int), v12 = .int .i64 x12_1 ∧ Aside0 (warpwrightlaw25_SpanMods.l0 kq a2 true ji13 x11_1 x12_1 t574 t575 t576 t578 t579 t580 t581 = some r) ∧ Aside0 (kq ≤ k) ∧ Aside0 (Kd.R Kd.bool 4 w' w.heap.size (fun _ => True) v585 x11_1) ∧ Aside0 (w'.heap[gb572]? = some (.cells #[.int .i64 a0_0, .int .u32 a0_1, .int .u16 a0_2] 25 (0, 0))) ∧ Aside0 (w'.heap[gb577]? = some (.cells #[.int .i64 t574, .int .i64 t575, .int .i64 t576] 28 (0, 0))) ∧ Aside0 (w'.heap[gb582]? = some (.cells #[.int .i64 t578, .int .i64 t579, .int .i64 t580, .int .i64 t581] 43 (0, 0))) ∧ Aside0 (Below w.heap.size w w'))
        case atStart => exact ⟨(y584), (t574), (by first | rfl | (simp; done) | (simp [*]; done)), H', ⟨Nat.le_refl _⟩, ⟨by (with_reducible repeat (first | apply Kd.R_alloc | apply Kd.R_drewN | apply Kd.R_drew)); exact HO586.out⟩, ⟨by (with_reducible repeat (first | refine blk_drewN ?_ _ | refine blk_drew ?_ | refine blk_alloc ?_ _)); exact BK572.out⟩, ⟨by (with_reducible repeat (first | refine blk_drewN ?_ _ | refine blk_drew ?_ | refine blk_alloc ?_ _)); exact BK577.out⟩, ⟨by (with_reducible repeat (first | refine blk_drewN ?_ _ | refine blk_drew ?_ | refine blk_alloc ?_ _)); exact BK582.out⟩, ⟨by repeat (first | (with_reducible first | exact HB.out | apply below_alloc | apply pw_below_drewN | apply below_drew1 | refine below_set ?_ GE572.out | refine below_set ?_ GE577.out | refine below_set ?_ GE582.out) | exact HB.out)⟩⟩
        case round =>
         clear H'
         try clear c1
         try clear c2
         try clear p2
         try clear c5
         try clear c6
         try clear p6
         try clear c8
         try clear c8b0
         try clear c8b1
         try clear c10
         try clear c11
         try clear c11b0
         try clear c12
         try clear c12b0
         try clear c14
         try clear c14b0
         try clear c14b1
         try clear c15
         try clear c15b0
         try clear c15b1
         try clear c21
         try clear c22
         try clear c25
         try clear c26
         try clear hcz18_0
         try clear hcz18_1
         try clear hcz18_2
         try clear hcz22_0
         try clear hcz22_1
         try clear hcz22_2
         try clear hcz27_0
         try clear hcz27_1
         try clear hcz27_2
         try clear hcz27_3
         try clear hcz29_0
         try clear hcz29_1
         try clear hcz29_2
         try clear hcz29_3
         try clear hcz32_0
         try clear hcz32_1
         try clear hcz32_2
         try clear hfz18_0
         try clear hfz18_1
         try clear hfz18_2
         try clear hfz22_0
         try clear hfz22_1
         try clear hfz22_2
         try clear hfz27_0
         try clear hfz27_1
         try clear hfz27_2
         try clear hfz27_3
         try clear hfz29_0
         try clear hfz29_1
         try clear hfz29_2
         try clear hfz29_3
         try clear hfz32_0
         try clear hfz32_1
         try clear hfz32_2
         obtain ⟨x11_1, x12_1, rfl, HA, HK1, HO_11, BK572, BK577, BK582, HB⟩ := hrel
         cases gk with
         | zero => exact absurd HA.out (by simp [warpwrightlaw25_SpanMods.l0])
         | succ k1 =>
          have H := HA.out
          clear HA
          simp only [warpwrightlaw25_SpanMods.l0] at H
          by_cases c33 : x12_1 ≤ t575
          ·rw [if_pos c33] at H
           have c33b0 : decide (x12_1 ≤ t575) = true := decide_eq_true c33
           clear c33
           by_cases c34 : ji13 = 0
           ·rw [if_pos c34] at H
            exact absurd H (by simp)
           ·rw [if_neg c34] at H
            have c34b0 : (ji13 == 0) = false := beq_eq_false_iff_ne.mpr c34
            have c34b1 : (ji13 != 0) = true := bne_iff_ne.mpr c34
            obtain ⟨ji35, hji35⟩ : ∃ j_ : Int, (Int.tmod (wrap64 ((Int.tmod x12_1 ji13) + ji13)) ji13) = j_ := ⟨_, rfl⟩
            replace H : (if 0 ≤ (ji35) then (if (ji35) < (x11_1.length : Int) then ((span_Has.f t578 t579 t580 (ji35)).bind fun t588 => (if t588 = true then (warpwrightlaw25_SpanMods.l0 k1 a2 true ji13 (x11_1.set ((ji35) : Int).toNat true) (wrap64 (x12_1 + (mx t576 1))) t574 t575 t576 t578 t579 t580 t581) else (none))) else (none)) else (none)) = some r := by first | (rw [hji35] at H; exact H) | (simp only [hji35] at H ⊢; exact H)
            by_cases c36 : 0 ≤ (ji35)
            ·rw [if_pos c36] at H
             have c36b0 : decide (0 ≤ (ji35)) = true := decide_eq_true c36
             clear c36
             by_cases c37 : (ji35) < (x11_1.length : Int)
             ·rw [if_pos c37] at H
              have c37b0 : decide ((ji35) < (x11_1.length : Int)) = true := decide_eq_true c37
              clear c37
              obtain ⟨y587, hy587⟩ : ∃ y_ : List Bool, y_ = (x11_1.set ((ji35) : Int).toNat true) := ⟨_, rfl⟩
              replace H : ((span_Has.f t578 t579 t580 (ji35)).bind fun t588 => (if t588 = true then (warpwrightlaw25_SpanMods.l0 k1 a2 true ji13 y587 (wrap64 (x12_1 + (mx t576 1))) t574 t575 t576 t578 t579 t580 t581) else (none))) = some r := by first | (rw [hy587]; with_reducible exact H) | (have H2_ := (Option.bind_some _ _).symm.trans H; rw [hy587]; with_reducible exact H2_) | (have H2_ := (Option.bind_some _ _).symm.trans H; with_reducible exact H2_) | with_reducible exact H | (rw [hy587]; exact H) | exact H
              have Ny587 := Aside0.mk hy587
              clear hy587
              replace H := Option.bind_eq_some_iff.mp H
              obtain ⟨t588, A390, H⟩ := H
              replace H : (if t588 = true then (warpwrightlaw25_SpanMods.l0 k1 a2 true ji13 y587 (wrap64 (x12_1 + (mx t576 1))) t574 t575 t576 t578 t579 t580 t581) else (none)) = some r := H
              have A39 := Aside0.mk A390
              clear A390
              by_cases c40 : t588 = true
              ·subst c40
               have H1 : (warpwrightlaw25_SpanMods.l0 k1 a2 true ji13 y587 (wrap64 (x12_1 + (mx t576 1))) t574 t575 t576 t578 t579 t580 t581) = some r := by rw [if_pos rfl] at H; exact H
               clear H
               have H := H1
               clear H1
               obtain ⟨ji41, hji41⟩ : ∃ j_ : Int, (mx t576 1) = j_ := ⟨_, rfl⟩
               replace H : (warpwrightlaw25_SpanMods.l0 k1 a2 true ji13 y587 (wrap64 (x12_1 + (ji41))) t574 t575 t576 t578 t579 t580 t581) = some r := by first | (rw [hji41] at H; exact H) | (simp only [hji41] at H ⊢; exact H)
               (try rw [hji41] at A39)
               have hji41_ : (if t576 < 1 then 1 else t576) = ji41 := hji41
               have H' := Aside0.mk H
               clear H
               have hnb42 := NB577_572.out
               have hnc42 := NB572_577.out
               have hnb43 := NB577_582.out
               have hnc43 := NB582_577.out
               have hcz44_0 : wr.cell? ⟨gb577, 0, none⟩ = some (.int .i64 t574) := (blk_cell BK577.out 0).trans rfl
               have hcz44_1 : wr.cell? ⟨gb577, 1, none⟩ = some (.int .i64 t575) := (blk_cell BK577.out 1).trans rfl
               have hcz44_2 : wr.cell? ⟨gb577, 2, none⟩ = some (.int .i64 t576) := (blk_cell BK577.out 2).trans rfl
               have hfz44_0 := blk_frozen BK577.out 0
               have hfz44_1 := blk_frozen BK577.out 1
               have hfz44_2 := blk_frozen BK577.out 2
               have p38 : 0 ≤ ((ji35) : Int) := of_decide_eq_true (by first | (with_reducible assumption) | assumption)
               have q38 : ((ji35) : Int) < ((x11_1.length : Int) : Int) := of_decide_eq_true (by first | (with_reducible assumption) | assumption)
               obtain ⟨go38, co38, eo38, gb38, gl38, cl38, HG38⟩ := Kd.R_form HO_11.out (by omega)
               (first | cases eo38 | (injection eo38 with ea_ en_ ec_; (first | subst ea_ | (injection ea_ with ea_; subst ea_)); subst ec_; clear en_))
               have GB38 := Aside0.mk gb38
               have GG38 := Aside0.mk HG38
               clear gb38 gl38 HG38
               obtain ⟨hx38_0, hf38_0⟩ := Kd.R_celln false HO_11.out ((ji35) : Int) p38 q38
               replace p38 := eq_true p38
               replace q38 := eq_true q38
               have HP45 := Kd.R_putg HO_11.out ((ji35) : Int) true
               go_wp2_with (first | ((with_reducible refine gate_store (t := 4) (p := 71) rfl ?_); refine store_event (t := 4) (p := 71) (v := ?vo_w46) (w1 := (wr.setCell ⟨go38, ((ji35) : Int).toNat, none⟩ (.bool true))) ?hg ?ho ?hn ?hr ?_; (case ho => rfl); (case hg => rfl); (case hn => rfl); (case hr => first | (go_simp; done) | (go_simp; rfl)); intro w46 hw; have hg : wr.grownBy w46 (some go38) := (by rw [hw]; exact HP45.2); have hp_ : Kd.R Kd.bool 4 w46 w.heap.size (fun _ => True) (.slice (some ⟨go38, 0, none⟩) x11_1.length co38) y587 := (by rw [hw, Ny587.out]; exact HP45.1); clear HP45; have n0_ := Aside0.mk (hp_); have n1_ := Aside0.mk (blk_grown (g := gb572) (o := .cells #[.int .i64 a0_0, .int .u32 a0_1, .int .u16 a0_2] 25 (0, 0)) (bk_ BK572) hg (Kd.R_ne HO_11.out BK572.out (by decide))); have n2_ := Aside0.mk (blk_grown (g := gb577) (o := .cells #[.int .i64 t574, .int .i64 t575, .int .i64 t576] 28 (0, 0)) (bk_ BK577) hg (Kd.R_ne HO_11.out BK577.out (by decide))); have n3_ := Aside0.mk (blk_grown (g := gb582) (o := .cells #[.int .i64 t578, .int .i64 t579, .int .i64 t580, .int .i64 t581] 43 (0, 0)) (bk_ BK582) hg (Kd.R_ne HO_11.out BK582.out (by decide))); have n4_ := Aside0.mk ((by rw [hw]; exact below_set (HB.out) GB38.out : Below w.heap.size w w46)); clear HO_11; clear BK572; clear BK577; clear BK582; clear HB; have HO_11 := n0_; have BK572 := n1_; have BK577 := n2_; have BK582 := n3_; have HB := n4_; clear n0_ n1_ n2_ n3_ n4_; clear hg hw hp_; have hnb47 := NB582_572.out; have hnc47 := NB572_582.out; have hcz48_0 : w46.cell? ⟨gb582, 0, none⟩ = some (.int .i64 t578) := (blk_cell BK582.out 0).trans rfl; have hcz48_1 : w46.cell? ⟨gb582, 1, none⟩ = some (.int .i64 t579) := (blk_cell BK582.out 1).trans rfl; have hcz48_2 : w46.cell? ⟨gb582, 2, none⟩ = some (.int .i64 t580) := (blk_cell BK582.out 2).trans rfl; have hcz48_3 : w46.cell? ⟨gb582, 3, none⟩ = some (.int .i64 t581) := (blk_cell BK582.out 3).trans rfl; have hfz48_0 := blk_frozen BK582.out 0; have hfz48_1 := blk_frozen BK582.out 1; have hfz48_2 := blk_frozen BK582.out 2; have hfz48_3 := blk_frozen BK582.out 3) | ((with_reducible refine gate_callee (f := 13) rfl ?_); refine goesL_ (some 75) rfl rfl Try.func13 (by kernel_rfl) rfl #[.agg #[.int .i64 t578, .int .i64 t579, .int .i64 t580], .int .i64 ji35] rfl (by (try simp only [List.map_toArray, List.map_cons, List.map_nil]); first | done | (simp only [hji35]; rfl) | rfl | (simp only [List.length_drop, List.length_take]; rfl)) ?_; (with_reducible refine (span_Has.calls t578 t579 t580 ji35 true _ A39.out).mono ?_); rintro e w49 ⟨rfl, hb⟩; refine ⟨_, rfl, ?_⟩; have n0_ := Aside0.mk (Kd.R_below (by (with_reducible repeat (first | apply Kd.R_alloc | apply Kd.R_drewN | apply Kd.R_drew)); exact HO_11.out) hb); have n1_ := Aside0.mk (bb_ BK572 hb); have n2_ := Aside0.mk (bb_ BK577 hb); have n3_ := Aside0.mk (bb_ BK582 hb); have n4_ := Aside0.mk (below_step (bl_ HB) hb); clear HO_11; clear BK572; clear BK577; clear BK582; clear HB; have HO_11 := n0_; have BK572 := n1_; have BK577 := n2_; have BK582 := n3_; have HB := n4_; clear n0_ n1_ n2_ n3_ n4_; (try clear hb); (try clear hb2); (try clear hk); (try clear hi); have hcz50_0 : w49.cell? ⟨gb577, 0, none⟩ = some (.int .i64 t574) := (blk_cell BK577.out 0).trans rfl; have hcz50_1 : w49.cell? ⟨gb577, 1, none⟩ = some (.int .i64 t575) := (blk_cell BK577.out 1).trans rfl; have hcz50_2 : w49.cell? ⟨gb577, 2, none⟩ = some (.int .i64 t576) := (blk_cell BK577.out 2).trans rfl; have hfz50_0 := blk_frozen BK577.out 0; have hfz50_1 := blk_frozen BK577.out 1; have hfz50_2 := blk_frozen BK577.out 2))
               go_roundg k1
               case measure => have := HK1.out; omega
               case rel => exact ⟨(y587), (wrap64 (x12_1 + (ji41))), (by first | rfl | (simp; done) | (simp only [← hji41] <;> (first | rfl | simp)) | (simp [*]; done)), H', ⟨by have := HK1.out; omega⟩, ⟨by (with_reducible repeat (first | apply Kd.R_alloc | apply Kd.R_drewN | apply Kd.R_drew)); exact HO_11.out⟩, ⟨by (with_reducible repeat (first | refine blk_drewN ?_ _ | refine blk_drew ?_ | refine blk_alloc ?_ _)); exact BK572.out⟩, ⟨by (with_reducible repeat (first | refine blk_drewN ?_ _ | refine blk_drew ?_ | refine blk_alloc ?_ _)); exact BK577.out⟩, ⟨by (with_reducible repeat (first | refine blk_drewN ?_ _ | refine blk_drew ?_ | refine blk_alloc ?_ _)); exact BK582.out⟩, ⟨by repeat (first | (with_reducible first | exact HB.out | apply below_alloc | apply pw_below_drewN | apply below_drew1 | refine below_set ?_ GE572.out | refine below_set ?_ GE577.out | refine below_set ?_ GE582.out) | exact HB.out)⟩⟩
              ·replace c40 := Bool.eq_false_iff.mpr c40
               subst c40
               have H1 : (none) = some r := by rw [if_neg (show ¬ (false = true) by decide)] at H; exact H
               clear H
               have H := H1
               clear H1
               exact absurd H (by simp)
             ·rw [if_neg c37] at H
              exact absurd H (by simp)
            ·rw [if_neg c36] at H
             exact absurd H (by simp)
          ·rw [if_neg c33] at H
           have c33b0 : decide (x12_1 ≤ t575) = false := decide_eq_false c33
           clear c33
           have H' := Aside0.mk H
           clear H
           have hnb51 := NB577_572.out
           have hnc51 := NB572_577.out
           have hnb52 := NB577_582.out
           have hnc52 := NB582_577.out
           have hcz53_0 : wr.cell? ⟨gb577, 0, none⟩ = some (.int .i64 t574) := (blk_cell BK577.out 0).trans rfl
           have hcz53_1 : wr.cell? ⟨gb577, 1, none⟩ = some (.int .i64 t575) := (blk_cell BK577.out 1).trans rfl
           have hcz53_2 : wr.cell? ⟨gb577, 2, none⟩ = some (.int .i64 t576) := (blk_cell BK577.out 2).trans rfl
           have hfz53_0 := blk_frozen BK577.out 0
           have hfz53_1 := blk_frozen BK577.out 1
           have hfz53_2 := blk_frozen BK577.out 2
           go_wp2
           go_loopg [14] k1 (fun kq v14 w' => ∃ (x14_2 : Int), v14 = .int .i64 x14_2 ∧ Aside0 (warpwrightlaw25_SpanMods.l1 kq a2 true ji13 x11_1 x14_2 t574 t575 t576 t578 t579 t580 t581 = some r) ∧ Aside0 (kq ≤ k1) ∧ Aside0 (Kd.R Kd.bool 4 w' w.heap.size (fun _ => True) v585 x11_1) ∧ Aside0 (w'.heap[gb572]? = some (.cells #[.int .i64 a0_0, .int .u32 a0_1, .int .u16 a0_2] 25 (0, 0))) ∧ Aside0 (w'.heap[gb577]? = some (.cells #[.int .i64 t574, .int .i64 t575, .int .i64 t576] 28 (0, 0))) ∧ Aside0 (w'.heap[gb582]? = some (.cells #[.int .i64 t578, .int .i64 t579, .int .i64 t580, .int .i64 t581] 43 (0, 0))) ∧ Aside0 (Below w.heap.size w w'))
           case atStart => exact ⟨(0), (by first | rfl | (simp; done) | (simp [*]; done)), H', ⟨Nat.le_refl _⟩, ⟨by (with_reducible repeat (first | apply Kd.R_alloc | apply Kd.R_drewN | apply Kd.R_drew)); exact HO_11.out⟩, ⟨by (with_reducible repeat (first | refine blk_drewN ?_ _ | refine blk_drew ?_ | refine blk_alloc ?_ _)); exact BK572.out⟩, ⟨by (with_reducible repeat (first | refine blk_drewN ?_ _ | refine blk_drew ?_ | refine blk_alloc ?_ _)); exact BK577.out⟩, ⟨by (with_reducible repeat (first | refine blk_drewN ?_ _ | refine blk_drew ?_ | refine blk_alloc ?_ _)); exact BK582.out⟩, ⟨by repeat (first | (with_reducible first | exact HB.out | apply below_alloc | apply pw_below_drewN | apply below_drew1 | refine below_set ?_ GE572.out | refine below_set ?_ GE577.out | refine below_set ?_ GE582.out) | exact HB.out)⟩⟩
           case round =>
            clear H'
            try clear c1
            try clear c2
            try clear p2
            try clear c3
            try clear p3
            try clear q3
            try clear hx3
            try clear hf3
            try clear c4
            try clear c5
            try clear c6
            try clear p6
            try clear c8
            try clear c8b0
            try clear c8b1
            try clear c10
            try clear c11
            try clear c11b0
            try clear c12
            try clear c12b0
            try clear c13
            try clear c14
            try clear c14b0
            try clear c14b1
            try clear c15
            try clear c15b0
            try clear c15b1
            try clear c21
            try clear c22
            try clear c25
            try clear c26
            try clear c33
            try clear c33b0
            try clear c34
            try clear c34b0
            try clear c34b1
            try clear c36
            try clear c36b0
            try clear c37
            try clear c37b0
            try clear p38
            try clear q38
            try clear hx38
            try clear hf38
            try clear c40
            try clear c42
            try clear c43
            try clear c47
            try clear c51
            try clear c52
            try clear hcz18_0
            try clear hcz18_1
            try clear hcz18_2
            try clear hcz22_0
            try clear hcz22_1
            try clear hcz22_2
            try clear hcz27_0
            try clear hcz27_1
            try clear hcz27_2
            try clear hcz27_3
            try clear hcz29_0
            try clear hcz29_1
            try clear hcz29_2
            try clear hcz29_3
            try clear hcz32_0
            try clear hcz32_1
            try clear hcz32_2
            try clear hcz44_0
            try clear hcz44_1
            try clear hcz44_2
            try clear hcz48_0
            try clear hcz48_1
            try clear hcz48_2
            try clear hcz48_3
            try clear hcz50_0
            try clear hcz50_1
            try clear hcz50_2
            try clear hcz53_0
            try clear hcz53_1
            try clear hcz53_2
            try clear hfz18_0
            try clear hfz18_1
            try clear hfz18_2
            try clear hfz22_0
            try clear hfz22_1
            try clear hfz22_2
            try clear hfz27_0
            try clear hfz27_1
            try clear hfz27_2
            try clear hfz27_3
            try clear hfz29_0
            try clear hfz29_1
            try clear hfz29_2
            try clear hfz29_3
            try clear hfz32_0
            try clear hfz32_1
            try clear hfz32_2
            try clear hfz44_0
            try clear hfz44_1
            try clear hfz44_2
            try clear hfz48_0
            try clear hfz48_1
            try clear hfz48_2
            try clear hfz48_3
            try clear hfz50_0
            try clear hfz50_1
            try clear hfz50_2
            try clear hfz53_0
            try clear hfz53_1
            try clear hfz53_2
            try clear hx38_0
            try clear p2
            try clear p38
            try clear p6
            try clear q38
            obtain ⟨x14_2, rfl, HA, HK2, HO_11, BK572, BK577, BK582, HB⟩ := hrel
            cases gk with
            | zero => exact absurd HA.out (by simp [warpwrightlaw25_SpanMods.l1])
            | succ k2 =>
             have H := HA.out
             clear HA
             simp only [warpwrightlaw25_SpanMods.l1] at H
             by_cases c54 : x14_2 < ji13
             ·rw [if_pos c54] at H
              have c54b0 : decide (x14_2 < ji13) = true := decide_eq_true c54
              clear c54
              replace H := Option.bind_eq_some_iff.mp H
              obtain ⟨t598, A550, H⟩ := H
              replace H : ((span_Size.f t578 t579 t580).bind fun t599 => (if t598 ≥ t599 then ((span_Has.f t578 t579 t580 x14_2).bind fun t600 => (if 0 ≤ x14_2 then (if x14_2 < (x11_1.length : Int) then (if (t600 != (rdOf false x11_1 x14_2)) = true then (none) else (warpwrightlaw25_SpanMods.l1 k2 a2 true ji13 x11_1 (wrap64 (x14_2 + 1)) t574 t575 t576 t578 t579 t580 t581)) else (none)) else (none))) else (warpwrightlaw25_SpanMods.l1 k2 a2 true ji13 x11_1 (wrap64 (x14_2 + 1)) t574 t575 t576 t578 t579 t580 t581))) = some r := H
              have A55 := Aside0.mk A550
              clear A550
              replace H := Option.bind_eq_some_iff.mp H
              obtain ⟨t599, A560, H⟩ := H
              replace H : (if t598 ≥ t599 then ((span_Has.f t578 t579 t580 x14_2).bind fun t600 => (if 0 ≤ x14_2 then (if x14_2 < (x11_1.length : Int) then (if (t600 != (rdOf false x11_1 x14_2)) = true then (none) else (warpwrightlaw25_SpanMods.l1 k2 a2 true ji13 x11_1 (wrap64 (x14_2 + 1)) t574 t575 t576 t578 t579 t580 t581)) else (none)) else (none))) else (warpwrightlaw25_SpanMods.l1 k2 a2 true ji13 x11_1 (wrap64 (x14_2 + 1)) t574 t575 t576 t578 t579 t580 t581)) = some r := H
              have A56 := Aside0.mk A560
              clear A560
              by_cases c57 : t598 ≥ t599
              ·rw [if_pos c57] at H
               have c57b0 : decide (t599 ≤ t598) = true := decide_eq_true c57
               clear c57
               replace H := Option.bind_eq_some_iff.mp H
               obtain ⟨t600, A580, H⟩ := H
               replace H : (if 0 ≤ x14_2 then (if x14_2 < (x11_1.length : Int) then (if (t600 != (rdOf false x11_1 x14_2)) = true then (none) else (warpwrightlaw25_SpanMods.l1 k2 a2 true ji13 x11_1 (wrap64 (x14_2 + 1)) t574 t575 t576 t578 t579 t580 t581)) else (none)) else (none)) = some r := H
               have A58 := Aside0.mk A580
               clear A580
               by_cases c59 : 0 ≤ x14_2
               ·rw [if_pos c59] at H
                have c59b0 : decide (0 ≤ x14_2) = true := decide_eq_true c59
                clear c59
                by_cases c60 : x14_2 < (x11_1.length : Int)
                ·rw [if_pos c60] at H
                 have c60b0 : decide (x14_2 < (x11_1.length : Int)) = true := decide_eq_true c60
                 clear c60
                 by_cases c61 : (t600 != (rdOf false x11_1 x14_2)) = true
                 ·rw [if_pos c61] at H
                  exact absurd H (by simp)
                 ·rw [if_neg c61] at H
                  have c61b0 : (t600 != (rdOf false x11_1 x14_2)) = false := by first | (simp; done) | simpa using c61
                  (try (have c61b1 : decide (t600 = (rdOf false x11_1 x14_2)) = true := by first | (simp; done) | simpa using c61))
                  (try (have c61b2 : (t600 == (rdOf false x11_1 x14_2)) = true := by first | (simp; done) | simpa using c61))
                  clear c61
                  have H' := Aside0.mk H
                  clear H
                  try go_wp2
                  have n0_ := Aside0.mk (Kd.R_drew HO_11.out)
                  have n1_ := Aside0.mk (blk_drew BK572.out)
                  have n2_ := Aside0.mk (blk_drew BK577.out)
                  have n3_ := Aside0.mk (blk_drew BK582.out)
                  have n4_ := Aside0.mk (below_drew1 HB.out)
                  clear HO_11
                  clear BK572
                  clear BK577
                  clear BK582
                  clear HB
                  have HO_11 := n0_
                  have BK572 := n1_
                  have BK577 := n2_
                  have BK582 := n3_
                  have HB := n4_
                  clear n0_ n1_ n2_ n3_ n4_
                  have p601 : 0 ≤ (x14_2 : Int) := of_decide_eq_true (by first | (with_reducible assumption) | assumption)
                  have q601 : x14_2 < (x11_1.length : Int) := of_decide_eq_true (by first | (with_reducible assumption) | assumption)
                  (try (obtain ⟨Ao_, co_, eo_⟩ := Kd.R_slice HO_11.out; subst eo_))
                  obtain ⟨ad601, e601, hx601_0⟩ := Kd.at_bool (Kd.R_reads' HO_11.out).2.2 x14_2 p601 q601
                  cases e601
                  replace p601 := eq_true p601
                  replace q601 := eq_true q601
                  refine start_ (n := 17) (S := fun w' => w'.cell? ⟨gb577, 0, none⟩ = some (.int .i64 t574) ∧ w'.cell? ⟨gb577, 1, none⟩ = some (.int .i64 t575) ∧ w'.cell? ⟨gb577, 2, none⟩ = some (.int .i64 t576) ∧ w'.cell? ⟨gb582, 0, none⟩ = some (.int .i64 t578) ∧ w'.cell? ⟨gb582, 1, none⟩ = some (.int .i64 t579) ∧ w'.cell? ⟨gb582, 2, none⟩ = some (.int .i64 t580) ∧ w'.cell? ⟨gb582, 3, none⟩ = some (.int .i64 t581) ∧ w'.cell? (ad601.add (x14_2).toNat) = some (.bool (rdOf false x11_1 x14_2))) (ds := []) #[false, false, false, false, false, false, false, false, false, false, false, false, false, false, false, false, false] (by kernel_rfl) rfl rfl ⟨(blk_cell BK577.out 0).trans rfl, (blk_cell BK577.out 1).trans rfl, (blk_cell BK577.out 2).trans rfl, (blk_cell BK582.out 0).trans rfl, (blk_cell BK582.out 1).trans rfl, (blk_cell BK582.out 2).trans rfl, (blk_cell BK582.out 3).trans rfl, hx601_0⟩ (fun hHeld => ?_); refine with_tabW warpwrightlaw25_SpanMods.tab19 warpwrightlaw25_SpanMods.bits19 (fun HT_ HW_ => ?_)
                  generalize wr.drew = w62 at HO_11 BK572 BK577 BK582 HB hx601_0 hHeld ⊢
                  refine pure_ (i := 2) (N := some 84) (v := ?_) (a' := ?_) (bm_ 17 4) rfl rfl (any_of HT_.out (by kernel_rfl)) (fun _ _ _ h => h) (Or.inl ⟨by rfl, ?_⟩) ?_ ?_
                  rotate_left
                  ·intro w'
                   go_simp
                   with_reducible rfl
                  rotate_left
                  ·simp only [Act.put, List.setIfInBounds_toArray, List.set_cons_zero, List.set_cons_succ, i64_w, i32_w]
                   rfl
                  refine take_ (i := 0) (N := some 82) (v := ?_) (a' := ?_) (bm_ 17 5) rfl rfl (take_ofW HT_.out HW_.out (by kernel_rfl)) (fun _ _ _ h => h) (Or.inl ⟨by rfl, ?_⟩) hHeld ?_ ?_
                  rotate_left
                  ·rintro w' ⟨s0, s1, s2, s3, s4, s5, s6, s7⟩
                   go_simp
                   with_reducible rfl
                  rotate_left
                  ·simp only [Act.put, List.setIfInBounds_toArray, List.set_cons_zero, List.set_cons_succ, i64_w, i32_w]
                   rfl
                  refine take_ (i := 3) (N := some 85) (v := ?_) (a' := ?_) (bm_ 17 13) rfl rfl (take_ofW HT_.out HW_.out (by kernel_rfl)) (fun _ _ _ h => h) (Or.inl ⟨by rfl, ?_⟩) hHeld ?_ ?_
                  rotate_left
                  ·rintro w' ⟨s0, s1, s2, s3, s4, s5, s6, s7⟩
                   go_simp
                   with_reducible rfl
                  rotate_left
                  ·simp only [Act.put, List.setIfInBounds_toArray, List.set_cons_zero, List.set_cons_succ, i64_w, i32_w]
                   rfl
                  refine one_ (i := 1) (N := some 83) (bm_ 17 15) rfl rfl (one_of HT_.out (by kernel_rfl)) (by decide) (fun K hK => ?_)
                  refine goes_ Try.func16 (by kernel_rfl) rfl #[.agg #[.int .i64 t574, .int .i64 t575, .int .i64 t576]] (by rfl) rfl rfl am_ ?_
                  with_reducible refine (span_Size.calls t574 t575 t576 t598 _ A55.out).mono ?_
                  rintro e w63 ⟨rfl, hb⟩
                  have HS7_ := (hb.cell (World.block_lt_of_cell? _ _ (hHeld.2.2.2.2.2.2.2))).trans (hHeld.2.2.2.2.2.2.2)
                  refine ⟨_, rfl, ?_⟩
                  have n0_ := Aside0.mk (Kd.R_below (by (with_reducible repeat (first | apply Kd.R_alloc | apply Kd.R_drewN | apply Kd.R_drew)); exact HO_11.out) hb)
                  have n1_ := Aside0.mk (bb_ BK572 hb)
                  have n2_ := Aside0.mk (bb_ BK577 hb)
                  have n3_ := Aside0.mk (bb_ BK582 hb)
                  have n4_ := Aside0.mk (below_step (bl_ HB) hb)
                  clear HO_11
                  clear BK572
                  clear BK577
                  clear BK582
                  clear HB
                  have HO_11 := n0_
                  have BK572 := n1_
                  have BK577 := n2_
                  have BK582 := n3_
                  have HB := n4_
                  clear n0_ n1_ n2_ n3_ n4_
                  (try clear hb)
                  (try clear hb2)
                  (try clear hk)
                  (try clear hi)
                  refine hK.out _ _ ⟨(blk_cell BK577.out 0).trans rfl, (blk_cell BK577.out 1).trans rfl, (blk_cell BK577.out 2).trans rfl, (blk_cell BK582.out 0).trans rfl, (blk_cell BK582.out 1).trans rfl, (blk_cell BK582.out 2).trans rfl, (blk_cell BK582.out 3).trans rfl, HS7_⟩ (fun hHeld => ?_)
                  clear hK K
                  refine norm_ (a' := ?_) ?_ ?_
                  rotate_left
                  ·show Act.put _ (some 83) _ = _
                   simp only [Act.put, List.setIfInBounds_toArray, List.set_cons_zero, List.set_cons_succ, i64_w, i32_w]
                   rfl
                  refine one_ (i := 4) (N := some 86) (bm_ 17 31) rfl rfl (one_of HT_.out (by kernel_rfl)) (by decide) (fun K hK => ?_)
                  refine goes_ Try.func16 (by kernel_rfl) rfl #[.agg #[.int .i64 t578, .int .i64 t579, .int .i64 t580]] (by rfl) rfl rfl am_ ?_
                  with_reducible refine (span_Size.calls t578 t579 t580 t599 _ A56.out).mono ?_
                  rintro e w64 ⟨rfl, hb⟩
                  have HS7_ := (hb.cell (World.block_lt_of_cell? _ _ (hHeld.2.2.2.2.2.2.2))).trans (hHeld.2.2.2.2.2.2.2)
                  refine ⟨_, rfl, ?_⟩
                  have n0_ := Aside0.mk (Kd.R_below (by (with_reducible repeat (first | apply Kd.R_alloc | apply Kd.R_drewN | apply Kd.R_drew)); exact HO_11.out) hb)
                  have n1_ := Aside0.mk (bb_ BK572 hb)
                  have n2_ := Aside0.mk (bb_ BK577 hb)
                  have n3_ := Aside0.mk (bb_ BK582 hb)
                  have n4_ := Aside0.mk (below_step (bl_ HB) hb)
                  clear HO_11
                  clear BK572
                  clear BK577
                  clear BK582
                  clear HB
                  have HO_11 := n0_
                  have BK572 := n1_
                  have BK577 := n2_
                  have BK582 := n3_
                  have HB := n4_
                  clear n0_ n1_ n2_ n3_ n4_
                  (try clear hb)
                  (try clear hb2)
                  (try clear hk)
                  (try clear hi)
                  refine hK.out _ _ ⟨(blk_cell BK577.out 0).trans rfl, (blk_cell BK577.out 1).trans rfl, (blk_cell BK577.out 2).trans rfl, (blk_cell BK582.out 0).trans rfl, (blk_cell BK582.out 1).trans rfl, (blk_cell BK582.out 2).trans rfl, (blk_cell BK582.out 3).trans rfl, HS7_⟩ (fun hHeld => ?_)
                  clear hK K
                  refine norm_ (a' := ?_) ?_ ?_
                  rotate_left
                  ·show Act.put _ (some 86) _ = _
                   simp only [Act.put, List.setIfInBounds_toArray, List.set_cons_zero, List.set_cons_succ, i64_w, i32_w]
                   rfl
                  refine pure_ (i := 5) (N := some 87) (v := ?_) (a' := ?_) (bm_ 17 63) rfl rfl (any_of HT_.out (by kernel_rfl)) (fun _ _ _ h => h) (Or.inl ⟨by rfl, ?_⟩) ?_ ?_
                  rotate_left
                  ·intro w'
                   go_simp
                   with_reducible rfl
                  rotate_left
                  ·simp only [Act.put, List.setIfInBounds_toArray, List.set_cons_zero, List.set_cons_succ, i64_w, i32_w]
                   rfl
                  refine pure_ (i := 6) (N := some 88) (v := ?_) (a' := ?_) (bm_ 17 127) rfl rfl (any_of HT_.out (by kernel_rfl)) (fun _ _ _ h => h) (Or.inl ⟨by rfl, ?_⟩) ?_ ?_
                  rotate_left
                  ·intro w'
                   go_simp
                   with_reducible rfl
                  rotate_left
                  ·simp only [Act.put, List.setIfInBounds_toArray, List.set_cons_zero, List.set_cons_succ, i64_w, i32_w]
                   rfl
                  refine pure_ (i := 7) (N := some 89) (v := ?_) (a' := ?_) (bm_ 17 255) rfl rfl (any_of HT_.out (by kernel_rfl)) (fun _ _ _ h => h) (Or.inl ⟨by rfl, ?_⟩) ?_ ?_
                  rotate_left
                  ·intro w'
                   go_simp
                   with_reducible rfl
                  rotate_left
                  ·simp only [Act.put, List.setIfInBounds_toArray, List.set_cons_zero, List.set_cons_succ, i64_w, i32_w]
                   rfl
                  refine pure_ (i := 9) (N := some 91) (v := ?_) (a' := ?_) (bm_ 17 767) rfl rfl (any_of HT_.out (by kernel_rfl)) (fun _ _ _ h => h) (Or.inl ⟨by rfl, ?_⟩) ?_ ?_
                  rotate_left
                  ·intro w'
                   go_simp
                   with_reducible rfl
                  rotate_left
                  ·simp only [Act.put, List.setIfInBounds_toArray, List.set_cons_zero, List.set_cons_succ, i64_w, i32_w]
                   rfl
                  refine pure_ (i := 11) (N := some 93) (v := ?_) (a' := ?_) (bm_ 17 2815) rfl rfl (any_of HT_.out (by kernel_rfl)) (fun _ _ _ h => h) (Or.inl ⟨by rfl, ?_⟩) ?_ ?_
                  rotate_left
                  ·intro w'
                   go_simp
                   with_reducible rfl
                  rotate_left
                  ·simp only [Act.put, List.setIfInBounds_toArray, List.set_cons_zero, List.set_cons_succ, i64_w, i32_w]
                   rfl
                  refine pure_ (i := 12) (N := some 94) (v := ?_) (a' := ?_) (bm_ 17 6911) rfl rfl (any_of HT_.out (by kernel_rfl)) (fun _ _ _ h => h) (Or.inl ⟨by rfl, ?_⟩) ?_ ?_
                  rotate_left
                  ·intro w'
                   go_simp
                   with_reducible rfl
                  rotate_left
                  ·simp only [Act.put, List.setIfInBounds_toArray, List.set_cons_zero, List.set_cons_succ, i64_w, i32_w]
                   rfl
                  refine pure_ (i := 13) (N := some 95) (v := ?_) (a' := ?_) (bm_ 17 15103) rfl rfl (any_of HT_.out (by kernel_rfl)) (fun _ _ _ h => h) (Or.inl ⟨by rfl, ?_⟩) ?_ ?_
                  rotate_left
                  ·intro w'
                   go_simp
                   with_reducible rfl
                  rotate_left
                  ·simp only [Act.put, List.setIfInBounds_toArray, List.set_cons_zero, List.set_cons_succ, i64_w, i32_w]
                   rfl
                  refine take_ (i := 8) (N := some 90) (v := ?_) (a' := ?_) (bm_ 17 15359) rfl rfl (take_ofW HT_.out HW_.out (by kernel_rfl)) (fun _ _ _ h => h) (Or.inl ⟨by rfl, ?_⟩) hHeld ?_ ?_
                  rotate_left
                  ·rintro w' ⟨s0, s1, s2, s3, s4, s5, s6, s7⟩
                   go_simp
                   with_reducible rfl
                  rotate_left
                  ·simp only [Act.put, List.setIfInBounds_toArray, List.set_cons_zero, List.set_cons_succ, i64_w, i32_w]
                   rfl
                  refine take_ (i := 14) (N := some 96) (v := ?_) (a' := ?_) (bm_ 17 31743) rfl rfl (take_ofW HT_.out HW_.out (by kernel_rfl)) (fun _ _ _ h => h) (Or.inl ⟨by rfl, ?_⟩) hHeld ?_ ?_
                  rotate_left
                  ·rintro w' ⟨s0, s1, s2, s3, s4, s5, s6, s7⟩
                   go_simp
                   with_reducible rfl
                  rotate_left
                  ·simp only [Act.put, List.setIfInBounds_toArray, List.set_cons_zero, List.set_cons_succ, i64_w, i32_w]
                   rfl
                  refine one_ (i := 10) (N := some 92) (bm_ 17 32767) rfl rfl (one_of HT_.out (by kernel_rfl)) (by decide) (fun K hK => ?_)
                  refine goes_ Try.func13 (by kernel_rfl) rfl #[.agg #[.int .i64 t578, .int .i64 t579, .int .i64 t580], .int .i64 x14_2] (by rfl) rfl rfl am_ ?_
                  with_reducible refine (span_Has.calls t578 t579 t580 x14_2 t600 _ A58.out).mono ?_
                  rintro e w65 ⟨rfl, hb⟩
                  have HS7_ := (hb.cell (World.block_lt_of_cell? _ _ (hHeld.2.2.2.2.2.2.2))).trans (hHeld.2.2.2.2.2.2.2)
                  refine ⟨_, rfl, ?_⟩
                  have n0_ := Aside0.mk (Kd.R_below (by (with_reducible repeat (first | apply Kd.R_alloc | apply Kd.R_drewN | apply Kd.R_drew)); exact HO_11.out) hb)
                  have n1_ := Aside0.mk (bb_ BK572 hb)
                  have n2_ := Aside0.mk (bb_ BK577 hb)
                  have n3_ := Aside0.mk (bb_ BK582 hb)
                  have n4_ := Aside0.mk (below_step (bl_ HB) hb)
                  clear HO_11
                  clear BK572
                  clear BK577
                  clear BK582
                  clear HB
                  have HO_11 := n0_
                  have BK572 := n1_
                  have BK577 := n2_
                  have BK582 := n3_
                  have HB := n4_
                  clear n0_ n1_ n2_ n3_ n4_
                  (try clear hb)
                  (try clear hb2)
                  (try clear hk)
                  (try clear hi)
                  obtain ⟨Ao66, co66, eo66⟩ := Kd.R_slice HO_11.out
                  (first | subst eo66 | (injection eo66 with f1_ f2_ f3_; have f4_ := f1_.symm; have f5_ := f3_.symm; clear f1_ f2_ f3_; subst f4_; subst f5_))
                  refine hK.out _ _ ⟨(blk_cell BK577.out 0).trans rfl, (blk_cell BK577.out 1).trans rfl, (blk_cell BK577.out 2).trans rfl, (blk_cell BK582.out 0).trans rfl, (blk_cell BK582.out 1).trans rfl, (blk_cell BK582.out 2).trans rfl, (blk_cell BK582.out 3).trans rfl, HS7_⟩ (fun hHeld => ?_)
                  clear hK K
                  refine norm_ (a' := ?_) ?_ ?_
                  rotate_left
                  ·show Act.put _ (some 92) _ = _
                   simp only [Act.put, List.setIfInBounds_toArray, List.set_cons_zero, List.set_cons_succ, i64_w, i32_w]
                   rfl
                  refine pure_ (i := 15) (N := some 97) (v := ?_) (a' := ?_) (bm_ 17 65535) rfl rfl (any_of HT_.out (by kernel_rfl)) (fun _ _ _ h => h) (Or.inl ⟨by rfl, ?_⟩) ?_ ?_
                  rotate_left
                  ·intro w'
                   go_simp
                   with_reducible rfl
                  rotate_left
                  ·simp only [Act.put, List.setIfInBounds_toArray, List.set_cons_zero, List.set_cons_succ, i64_w, i32_w]
                   rfl
                  refine pure_ (i := 16) (N := some 98) (v := ?_) (a' := ?_) (bm_ 17 131071) rfl rfl (any_of HT_.out (by kernel_rfl)) (fun _ _ _ h => h) (Or.inl ⟨by rfl, ?_⟩) ?_ ?_
                  rotate_left
                  ·intro w'
                   go_simp
                   with_reducible rfl
                  rotate_left
                  ·simp only [Act.put, List.setIfInBounds_toArray, List.set_cons_zero, List.set_cons_succ, i64_w, i32_w]
                   rfl
                  refine done_ (done_of HT_.out (by kernel_rfl)) ?_
                  try go_wp2
                  go_roundg k2
                  case measure => have := HK1.out; have := HK2.out; omega
                  case rel => exact ⟨(wrap64 (x14_2 + 1)), (by first | rfl | (simp; done) | (simp [*]; done)), H', ⟨by have := HK1.out; have := HK2.out; omega⟩, ⟨by (with_reducible repeat (first | apply Kd.R_alloc | apply Kd.R_drewN | apply Kd.R_drew)); exact HO_11.out⟩, ⟨by (with_reducible repeat (first | refine blk_drewN ?_ _ | refine blk_drew ?_ | refine blk_alloc ?_ _)); exact BK572.out⟩, ⟨by (with_reducible repeat (first | refine blk_drewN ?_ _ | refine blk_drew ?_ | refine blk_alloc ?_ _)); exact BK577.out⟩, ⟨by (with_reducible repeat (first | refine blk_drewN ?_ _ | refine blk_drew ?_ | refine blk_alloc ?_ _)); exact BK582.out⟩, ⟨by repeat (first | (with_reducible first | exact HB.out | apply below_alloc | apply pw_below_drewN | apply below_drew1 | refine below_set ?_ GE572.out | refine below_set ?_ GE577.out | refine below_set ?_ GE582.out) | exact HB.out)⟩⟩
                ·rw [if_neg c60] at H
                 exact absurd H (by simp)
               ·rw [if_neg c59] at H
                exact absurd H (by simp)
              ·rw [if_neg c57] at H
               have c57b0 : decide (t599 ≤ t598) = false := decide_eq_false c57
               clear c57
               have H' := Aside0.mk H
               clear H
               try go_wp2
               have n0_ := Aside0.mk (Kd.R_drew HO_11.out)
               have n1_ := Aside0.mk (blk_drew BK572.out)
               have n2_ := Aside0.mk (blk_drew BK577.out)
               have n3_ := Aside0.mk (blk_drew BK582.out)
               have n4_ := Aside0.mk (below_drew1 HB.out)
               clear HO_11
               clear BK572
               clear BK577
               clear BK582
               clear HB
               have HO_11 := n0_
               have BK572 := n1_
               have BK577 := n2_
               have BK582 := n3_
               have HB := n4_
               clear n0_ n1_ n2_ n3_ n4_
               refine start_ (n := 17) (S := fun w' => w'.cell? ⟨gb577, 0, none⟩ = some (.int .i64 t574) ∧ w'.cell? ⟨gb577, 1, none⟩ = some (.int .i64 t575) ∧ w'.cell? ⟨gb577, 2, none⟩ = some (.int .i64 t576) ∧ w'.cell? ⟨gb582, 0, none⟩ = some (.int .i64 t578) ∧ w'.cell? ⟨gb582, 1, none⟩ = some (.int .i64 t579) ∧ w'.cell? ⟨gb582, 2, none⟩ = some (.int .i64 t580) ∧ w'.cell? ⟨gb582, 3, none⟩ = some (.int .i64 t581)) (ds := []) #[false, false, false, false, false, false, false, false, false, false, false, false, false, false, false, false, false] (by kernel_rfl) rfl rfl ⟨(blk_cell BK577.out 0).trans rfl, (blk_cell BK577.out 1).trans rfl, (blk_cell BK577.out 2).trans rfl, (blk_cell BK582.out 0).trans rfl, (blk_cell BK582.out 1).trans rfl, (blk_cell BK582.out 2).trans rfl, (blk_cell BK582.out 3).trans rfl⟩ (fun hHeld => ?_); refine with_tabW warpwrightlaw25_SpanMods.tab19 warpwrightlaw25_SpanMods.bits19 (fun HT_ HW_ => ?_)
               generalize wr.drew = w67 at HO_11 BK572 BK577 BK582 HB hHeld ⊢
               refine pure_ (i := 2) (N := some 84) (v := ?_) (a' := ?_) (bm_ 17 4) rfl rfl (any_of HT_.out (by kernel_rfl)) (fun _ _ _ h => h) (Or.inl ⟨by rfl, ?_⟩) ?_ ?_
               rotate_left
               ·intro w'
                go_simp
                with_reducible rfl
               rotate_left
               ·simp only [Act.put, List.setIfInBounds_toArray, List.set_cons_zero, List.set_cons_succ, i64_w, i32_w]
                rfl
               refine take_ (i := 0) (N := some 82) (v := ?_) (a' := ?_) (bm_ 17 5) rfl rfl (take_ofW HT_.out HW_.out (by kernel_rfl)) (fun _ _ _ h => h) (Or.inl ⟨by rfl, ?_⟩) hHeld ?_ ?_
               rotate_left
               ·rintro w' ⟨s0, s1, s2, s3, s4, s5, s6⟩
                go_simp
                with_reducible rfl
               rotate_left
               ·simp only [Act.put, List.setIfInBounds_toArray, List.set_cons_zero, List.set_cons_succ, i64_w, i32_w]
                rfl
               refine take_ (i := 3) (N := some 85) (v := ?_) (a' := ?_) (bm_ 17 13) rfl rfl (take_ofW HT_.out HW_.out (by kernel_rfl)) (fun _ _ _ h => h) (Or.inl ⟨by rfl, ?_⟩) hHeld ?_ ?_
               rotate_left
               ·rintro w' ⟨s0, s1, s2, s3, s4, s5, s6⟩
                go_simp
                with_reducible rfl
               rotate_left
               ·simp only [Act.put, List.setIfInBounds_toArray, List.set_cons_zero, List.set_cons_succ, i64_w, i32_w]
                rfl
               refine one_ (i := 1) (N := some 83) (bm_ 17 15) rfl rfl (one_of HT_.out (by kernel_rfl)) (by decide) (fun K hK => ?_)
               refine goes_ Try.func16 (by kernel_rfl) rfl #[.agg #[.int .i64 t574, .int .i64 t575, .int .i64 t576]] (by rfl) rfl rfl am_ ?_
               with_reducible refine (span_Size.calls t574 t575 t576 t598 _ A55.out).mono ?_
               rintro e w68 ⟨rfl, hb⟩
               refine ⟨_, rfl, ?_⟩
               have n0_ := Aside0.mk (Kd.R_below (by (with_reducible repeat (first | apply Kd.R_alloc | apply Kd.R_drewN | apply Kd.R_drew)); exact HO_11.out) hb)
               have n1_ := Aside0.mk (bb_ BK572 hb)
               have n2_ := Aside0.mk (bb_ BK577 hb)
               have n3_ := Aside0.mk (bb_ BK582 hb)
               have n4_ := Aside0.mk (below_step (bl_ HB) hb)
               clear HO_11
               clear BK572
               clear BK577
               clear BK582
               clear HB
               have HO_11 := n0_
               have BK572 := n1_
               have BK577 := n2_
               have BK582 := n3_
               have HB := n4_
               clear n0_ n1_ n2_ n3_ n4_
               (try clear hb)
               (try clear hb2)
               (try clear hk)
               (try clear hi)
               refine hK.out _ _ ⟨(blk_cell BK577.out 0).trans rfl, (blk_cell BK577.out 1).trans rfl, (blk_cell BK577.out 2).trans rfl, (blk_cell BK582.out 0).trans rfl, (blk_cell BK582.out 1).trans rfl, (blk_cell BK582.out 2).trans rfl, (blk_cell BK582.out 3).trans rfl⟩ (fun hHeld => ?_)
               clear hK K
               refine norm_ (a' := ?_) ?_ ?_
               rotate_left
               ·show Act.put _ (some 83) _ = _
                simp only [Act.put, List.setIfInBounds_toArray, List.set_cons_zero, List.set_cons_succ, i64_w, i32_w]
                rfl
               refine one_ (i := 4) (N := some 86) (bm_ 17 31) rfl rfl (one_of HT_.out (by kernel_rfl)) (by decide) (fun K hK => ?_)
               refine goes_ Try.func16 (by kernel_rfl) rfl #[.agg #[.int .i64 t578, .int .i64 t579, .int .i64 t580]] (by rfl) rfl rfl am_ ?_
               with_reducible refine (span_Size.calls t578 t579 t580 t599 _ A56.out).mono ?_
               rintro e w69 ⟨rfl, hb⟩
               refine ⟨_, rfl, ?_⟩
               have n0_ := Aside0.mk (Kd.R_below (by (with_reducible repeat (first | apply Kd.R_alloc | apply Kd.R_drewN | apply Kd.R_drew)); exact HO_11.out) hb)
               have n1_ := Aside0.mk (bb_ BK572 hb)
               have n2_ := Aside0.mk (bb_ BK577 hb)
               have n3_ := Aside0.mk (bb_ BK582 hb)
               have n4_ := Aside0.mk (below_step (bl_ HB) hb)
               clear HO_11
               clear BK572
               clear BK577
               clear BK582
               clear HB
               have HO_11 := n0_
               have BK572 := n1_
               have BK577 := n2_
               have BK582 := n3_
               have HB := n4_
               clear n0_ n1_ n2_ n3_ n4_
               (try clear hb)
               (try clear hb2)
               (try clear hk)
               (try clear hi)
               refine hK.out _ _ ⟨(blk_cell BK577.out 0).trans rfl, (blk_cell BK577.out 1).trans rfl, (blk_cell BK577.out 2).trans rfl, (blk_cell BK582.out 0).trans rfl, (blk_cell BK582.out 1).trans rfl, (blk_cell BK582.out 2).trans rfl, (blk_cell BK582.out 3).trans rfl⟩ (fun hHeld => ?_)
               clear hK K
               refine norm_ (a' := ?_) ?_ ?_
               rotate_left
               ·show Act.put _ (some 86) _ = _
                simp only [Act.put, List.setIfInBounds_toArray, List.set_cons_zero, List.set_cons_succ, i64_w, i32_w]
                rfl
               refine pure_ (i := 5) (N := some 87) (v := ?_) (a' := ?_) (bm_ 17 63) rfl rfl (any_of HT_.out (by kernel_rfl)) (fun _ _ _ h => h) (Or.inl ⟨by rfl, ?_⟩) ?_ ?_
               rotate_left
               ·intro w'
                go_simp
                with_reducible rfl
               rotate_left
               ·simp only [Act.put, List.setIfInBounds_toArray, List.set_cons_zero, List.set_cons_succ, i64_w, i32_w]
                rfl
               refine pure_ (i := 6) (N := some 88) (v := ?_) (a' := ?_) (bm_ 17 127) rfl rfl (any_of HT_.out (by kernel_rfl)) (fun _ _ _ h => h) (Or.inl ⟨by rfl, ?_⟩) ?_ ?_
               rotate_left
               ·intro w'
                go_simp
                with_reducible rfl
               rotate_left
               ·simp only [Act.put, List.setIfInBounds_toArray, List.set_cons_zero, List.set_cons_succ, i64_w, i32_w]
                rfl
               refine pure_ (i := 7) (N := some 89) (v := undef) (a' := ?_) (bm_ 17 255) rfl rfl (any_of HT_.out (by kernel_rfl)) (fun _ _ _ h => h) (Or.inr ⟨by rfl, rfl⟩) ?_ ?_
               rotate_left
               ·simp only [Act.put, List.setIfInBounds_toArray, List.set_cons_zero, List.set_cons_succ, i64_w, i32_w]
                rfl
               refine pure_ (i := 8) (N := some 90) (v := undef) (a' := ?_) (bm_ 17 511) rfl rfl (any_of HT_.out (by kernel_rfl)) (fun _ _ _ h => h) (Or.inr ⟨by rfl, rfl⟩) ?_ ?_
               rotate_left
               ·simp only [Act.put, List.setIfInBounds_toArray, List.set_cons_zero, List.set_cons_succ, i64_w, i32_w]
                rfl
               refine pure_ (i := 9) (N := some 91) (v := undef) (a' := ?_) (bm_ 17 1023) rfl rfl (any_of HT_.out (by kernel_rfl)) (fun _ _ _ h => h) (Or.inr ⟨by rfl, rfl⟩) ?_ ?_
               rotate_left
               ·simp only [Act.put, List.setIfInBounds_toArray, List.set_cons_zero, List.set_cons_succ, i64_w, i32_w]
                rfl
               refine pure_ (i := 10) (N := some 92) (v := undef) (a' := ?_) (bm_ 17 2047) rfl rfl (any_of HT_.out (by kernel_rfl)) (fun _ _ _ h => h) (Or.inr ⟨by rfl, rfl⟩) ?_ ?_
               rotate_left
               ·simp only [Act.put, List.setIfInBounds_toArray, List.set_cons_zero, List.set_cons_succ, i64_w, i32_w]
                rfl
               refine pure_ (i := 11) (N := some 93) (v := undef) (a' := ?_) (bm_ 17 4095) rfl rfl (any_of HT_.out (by kernel_rfl)) (fun _ _ _ h => h) (Or.inr ⟨by rfl, rfl⟩) ?_ ?_
               rotate_left
               ·simp only [Act.put, List.setIfInBounds_toArray, List.set_cons_zero, List.set_cons_succ, i64_w, i32_w]
                rfl
               refine pure_ (i := 12) (N := some 94) (v := undef) (a' := ?_) (bm_ 17 8191) rfl rfl (any_of HT_.out (by kernel_rfl)) (fun _ _ _ h => h) (Or.inr ⟨by rfl, rfl⟩) ?_ ?_
               rotate_left
               ·simp only [Act.put, List.setIfInBounds_toArray, List.set_cons_zero, List.set_cons_succ, i64_w, i32_w]
                rfl
               refine pure_ (i := 13) (N := some 95) (v := undef) (a' := ?_) (bm_ 17 16383) rfl rfl (any_of HT_.out (by kernel_rfl)) (fun _ _ _ h => h) (Or.inr ⟨by rfl, rfl⟩) ?_ ?_
               rotate_left
               ·simp only [Act.put, List.setIfInBounds_toArray, List.set_cons_zero, List.set_cons_succ, i64_w, i32_w]
                rfl
               refine pure_ (i := 14) (N := some 96) (v := undef) (a' := ?_) (bm_ 17 32767) rfl rfl (any_of HT_.out (by kernel_rfl)) (fun _ _ _ h => h) (Or.inr ⟨by rfl, rfl⟩) ?_ ?_
               rotate_left
               ·simp only [Act.put, List.setIfInBounds_toArray, List.set_cons_zero, List.set_cons_succ, i64_w, i32_w]
                rfl
               refine pure_ (i := 15) (N := some 97) (v := undef) (a' := ?_) (bm_ 17 65535) rfl rfl (any_of HT_.out (by kernel_rfl)) (fun _ _ _ h => h) (Or.inr ⟨by rfl, rfl⟩) ?_ ?_
               rotate_left
               ·simp only [Act.put, List.setIfInBounds_toArray, List.set_cons_zero, List.set_cons_succ, i64_w, i32_w]
                rfl
               refine pure_ (i := 16) (N := some 98) (v := ?_) (a' := ?_) (bm_ 17 131071) rfl rfl (any_of HT_.out (by kernel_rfl)) (fun _ _ _ h => h) (Or.inl ⟨by rfl, ?_⟩) ?_ ?_
               rotate_left
               ·intro w'
                go_simp
                with_reducible rfl
               rotate_left
               ·simp only [Act.put, List.setIfInBounds_toArray, List.set_cons_zero, List.set_cons_succ, i64_w, i32_w]
                rfl
               refine done_ (done_of HT_.out (by kernel_rfl)) ?_
               try go_wp2
               go_roundg k2
               case measure => have := HK1.out; have := HK2.out; omega
               case rel => exact ⟨(wrap64 (x14_2 + 1)), (by first | rfl | (simp; done) | (simp [*]; done)), H', ⟨by have := HK1.out; have := HK2.out; omega⟩, ⟨by (with_reducible repeat (first | apply Kd.R_alloc | apply Kd.R_drewN | apply Kd.R_drew)); exact HO_11.out⟩, ⟨by (with_reducible repeat (first | refine blk_drewN ?_ _ | refine blk_drew ?_ | refine blk_alloc ?_ _)); exact BK572.out⟩, ⟨by (with_reducible repeat (first | refine blk_drewN ?_ _ | refine blk_drew ?_ | refine blk_alloc ?_ _)); exact BK577.out⟩, ⟨by (with_reducible repeat (first | refine blk_drewN ?_ _ | refine blk_drew ?_ | refine blk_alloc ?_ _)); exact BK582.out⟩, ⟨by repeat (first | (with_reducible first | exact HB.out | apply below_alloc | apply pw_below_drewN | apply below_drew1 | refine below_set ?_ GE572.out | refine below_set ?_ GE577.out | refine below_set ?_ GE582.out) | exact HB.out)⟩⟩
             ·rw [if_neg c54] at H
              have c54b0 : decide (x14_2 < ji13) = false := decide_eq_false c54
              clear c54
              by_cases c70 : a2 ≥ 1
              ·rw [if_pos c70] at H
               have c70b0 : decide (1 ≤ a2) = true := decide_eq_true c70
               clear c70
               replace H := Option.bind_eq_some_iff.mp H
               obtain ⟨t589, A710, H⟩ := H
               replace H : ((warpwrightlaw25_mod.f k2 t574 t575 t576 a2).bind fun bt590 => (if ((decide (a2 ≤ t589)) == (bt590.2.2.2 == 0)) = true then (some true) else (none))) = some r := H
               have A71 := Aside0.mk A710
               clear A710
               replace H := Option.bind_eq_some_iff.mp H
               obtain ⟨⟨t590, t591, t592, t593⟩, A720, H⟩ := H
               replace H : (if ((decide (a2 ≤ t589)) == (t593 == 0)) = true then (some true) else (none)) = some r := H
               have A72 := Aside0.mk A720
               clear A720
               by_cases c73 : ((decide (a2 ≤ t589)) == (t593 == 0)) = true
               ·rw [if_pos c73] at H
                have c73b0 : ((decide (a2 ≤ t589)) == (t593 == 0)) = true := c73
                (try (have c73b1 : decide ((decide (a2 ≤ t589)) = (t593 == 0)) = true := by first | (simp; done) | simpa using c73))
                (try (have c73b2 : ((decide (a2 ≤ t589)) == (t593 == 0)) = true := by first | (simp; done) | simpa using c73))
                clear c73
                obtain rfl := Option.some.inj H
                try go_wp2
                have n0_ := Aside0.mk (Kd.R_drew HO_11.out)
                have n1_ := Aside0.mk (blk_drew BK572.out)
                have n2_ := Aside0.mk (blk_drew BK577.out)
                have n3_ := Aside0.mk (blk_drew BK582.out)
                have n4_ := Aside0.mk (below_drew1 HB.out)
                clear HO_11
                clear BK572
                clear BK577
                clear BK582
                clear HB
                have HO_11 := n0_
                have BK572 := n1_
                have BK577 := n2_
                have BK582 := n3_
                have HB := n4_
                clear n0_ n1_ n2_ n3_ n4_
                refine start_ (n := 17) (S := fun w' => w'.cell? ⟨gb577, 0, none⟩ = some (.int .i64 t574) ∧ w'.cell? ⟨gb577, 1, none⟩ = some (.int .i64 t575) ∧ w'.cell? ⟨gb577, 2, none⟩ = some (.int .i64 t576)) (ds := []) #[false, false, false, false, false, false, false, false, false, false, false, false, false, false, false, false, false] (by kernel_rfl) rfl rfl ⟨(blk_cell BK577.out 0).trans rfl, (blk_cell BK577.out 1).trans rfl, (blk_cell BK577.out 2).trans rfl⟩ (fun hHeld => ?_); refine with_tabW warpwrightlaw25_SpanMods.tab21 warpwrightlaw25_SpanMods.bits21 (fun HT_ HW_ => ?_)
                generalize wr.drew = w74 at HO_11 BK572 BK577 BK582 HB hHeld ⊢
                refine pure_ (i := 0) (N := some 99) (v := ?_) (a' := ?_) (bm_ 17 1) rfl rfl (any_of HT_.out (by kernel_rfl)) (fun _ _ _ h => h) (Or.inl ⟨by rfl, ?_⟩) ?_ ?_
                rotate_left
                ·intro w'
                 go_simp
                 with_reducible rfl
                rotate_left
                ·simp only [Act.put, List.setIfInBounds_toArray, List.set_cons_zero, List.set_cons_succ, i64_w, i32_w]
                 rfl
                refine pure_ (i := 1) (N := some 100) (v := ?_) (a' := ?_) (bm_ 17 3) rfl rfl (any_of HT_.out (by kernel_rfl)) (fun _ _ _ h => h) (Or.inl ⟨by rfl, ?_⟩) ?_ ?_
                rotate_left
                ·intro w'
                 go_simp
                 with_reducible rfl
                rotate_left
                ·simp only [Act.put, List.setIfInBounds_toArray, List.set_cons_zero, List.set_cons_succ, i64_w, i32_w]
                 rfl
                refine pure_ (i := 2) (N := some 101) (v := ?_) (a' := ?_) (bm_ 17 7) rfl rfl (any_of HT_.out (by kernel_rfl)) (fun _ _ _ h => h) (Or.inl ⟨by rfl, ?_⟩) ?_ ?_
                rotate_left
                ·intro w'
                 go_simp
                 with_reducible rfl
                rotate_left
                ·simp only [Act.put, List.setIfInBounds_toArray, List.set_cons_zero, List.set_cons_succ, i64_w, i32_w]
                 rfl
                refine pure_ (i := 3) (N := some 102) (v := ?_) (a' := ?_) (bm_ 17 15) rfl rfl (any_of HT_.out (by kernel_rfl)) (fun _ _ _ h => h) (Or.inl ⟨by rfl, ?_⟩) ?_ ?_
                rotate_left
                ·intro w'
                 go_simp
                 with_reducible rfl
                rotate_left
                ·simp only [Act.put, List.setIfInBounds_toArray, List.set_cons_zero, List.set_cons_succ, i64_w, i32_w]
                 rfl
                refine pure_ (i := 8) (N := some 107) (v := ?_) (a' := ?_) (bm_ 17 271) rfl rfl (any_of HT_.out (by kernel_rfl)) (fun _ _ _ h => h) (Or.inl ⟨by rfl, ?_⟩) ?_ ?_
                rotate_left
                ·intro w'
                 go_simp
                 with_reducible rfl
                rotate_left
                ·simp only [Act.put, List.setIfInBounds_toArray, List.set_cons_zero, List.set_cons_succ, i64_w, i32_w]
                 rfl
                refine take_ (i := 7) (N := some 106) (v := ?_) (a' := ?_) (bm_ 17 399) rfl rfl (take_ofW HT_.out HW_.out (by kernel_rfl)) (fun _ _ _ h => h) (Or.inl ⟨by rfl, ?_⟩) hHeld ?_ ?_
                rotate_left
                ·rintro w' ⟨s0, s1, s2⟩
                 go_simp
                 with_reducible rfl
                rotate_left
                ·simp only [Act.put, List.setIfInBounds_toArray, List.set_cons_zero, List.set_cons_succ, i64_w, i32_w]
                 rfl
                refine one_ (i := 4) (N := some 103) (bm_ 17 415) rfl rfl (one_of HT_.out (by kernel_rfl)) (by decide) (fun K hK => ?_)
                refine goes_ Try.func24 (by kernel_rfl) rfl #[] (by rfl) rfl rfl am_ ?_
                with_reducible refine (warpwrightref25_Edge.calls  t589 _ A71.out).mono ?_
                rintro e w' ⟨rfl, ⟨nd, rfl⟩⟩
                refine ⟨_, rfl, ?_⟩
                refine hK.out _ _ ⟨(blk_cell BK577.out 0).trans rfl, (blk_cell BK577.out 1).trans rfl, (blk_cell BK577.out 2).trans rfl⟩ (fun hHeld => ?_)
                clear hK K
                refine norm_ (a' := ?_) ?_ ?_
                rotate_left
                ·show Act.put _ (some 103) _ = _
                 simp only [Act.put, List.setIfInBounds_toArray, List.set_cons_zero, List.set_cons_succ, i64_w, i32_w]
                 rfl
                refine pure_ (i := 5) (N := some 104) (v := ?_) (a' := ?_) (bm_ 17 447) rfl rfl (any_of HT_.out (by kernel_rfl)) (fun _ _ _ h => h) (Or.inl ⟨by rfl, ?_⟩) ?_ ?_
                rotate_left
                ·intro w'
                 go_simp
                 with_reducible rfl
                rotate_left
                ·simp only [Act.put, List.setIfInBounds_toArray, List.set_cons_zero, List.set_cons_succ, i64_w, i32_w]
                 rfl
                refine pure_ (i := 6) (N := some 105) (v := ?_) (a' := ?_) (bm_ 17 511) rfl rfl (any_of HT_.out (by kernel_rfl)) (fun _ _ _ h => h) (Or.inl ⟨by rfl, ?_⟩) ?_ ?_
                rotate_left
                ·intro w'
                 go_simp
                 with_reducible rfl
                rotate_left
                ·simp only [Act.put, List.setIfInBounds_toArray, List.set_cons_zero, List.set_cons_succ, i64_w, i32_w]
                 rfl
                refine one_ (i := 9) (N := some 108) (bm_ 17 1023) rfl rfl (one_of HT_.out (by kernel_rfl)) (by decide) (fun K hK => ?_)
                refine goes_ Try.func22 (by kernel_rfl) rfl #[.agg #[.int .i64 t574, .int .i64 t575, .int .i64 t576], .int .i64 a2] (by rfl) rfl rfl am_ ?_
                with_reducible refine (warpwrightlaw25_mod.calls k2 t574 t575 t576 a2 t590 t591 t592 t593 _ A72.out).mono ?_
                rintro e w75 ⟨rfl, hb⟩
                refine ⟨_, rfl, ?_⟩
                have n0_ := Aside0.mk (Kd.R_below (by (with_reducible repeat (first | apply Kd.R_alloc | apply Kd.R_drewN | apply Kd.R_drew)); exact HO_11.out) hb)
                have n1_ := Aside0.mk (bb_ BK572 hb)
                have n2_ := Aside0.mk (bb_ BK577 hb)
                have n3_ := Aside0.mk (bb_ BK582 hb)
                have n4_ := Aside0.mk (below_step (bl_ HB) hb)
                clear HO_11
                clear BK572
                clear BK577
                clear BK582
                clear HB
                have HO_11 := n0_
                have BK572 := n1_
                have BK577 := n2_
                have BK582 := n3_
                have HB := n4_
                clear n0_ n1_ n2_ n3_ n4_
                (try clear hb)
                (try clear hb2)
                (try clear hk)
                (try clear hi)
                refine hK.out _ _ ⟨(blk_cell BK577.out 0).trans rfl, (blk_cell BK577.out 1).trans rfl, (blk_cell BK577.out 2).trans rfl⟩ (fun hHeld => ?_)
                clear hK K
                refine norm_ (a' := ?_) ?_ ?_
                rotate_left
                ·show Act.put _ (some 108) _ = _
                 simp only [Act.put, List.setIfInBounds_toArray, List.set_cons_zero, List.set_cons_succ, i64_w, i32_w]
                 rfl
                refine pure_ (i := 10) (N := some 109) (v := ?_) (a' := ?_) (bm_ 17 2047) rfl rfl (any_of HT_.out (by kernel_rfl)) (fun _ _ _ h => h) (Or.inl ⟨by rfl, ?_⟩) ?_ ?_
                rotate_left
                ·intro w'
                 go_simp
                 with_reducible rfl
                rotate_left
                ·simp only [Act.put, List.setIfInBounds_toArray, List.set_cons_zero, List.set_cons_succ, i64_w, i32_w]
                 rfl
                refine pure_ (i := 11) (N := some 110) (v := ?_) (a' := ?_) (bm_ 17 4095) rfl rfl (any_of HT_.out (by kernel_rfl)) (fun _ _ _ h => h) (Or.inl ⟨by rfl, ?_⟩) ?_ ?_
                rotate_left
                ·intro w'
                 go_simp
                 with_reducible rfl
                rotate_left
                ·simp only [Act.put, List.setIfInBounds_toArray, List.set_cons_zero, List.set_cons_succ, i64_w, i32_w]
                 rfl
                refine pure_ (i := 12) (N := some 111) (v := ?_) (a' := ?_) (bm_ 17 8191) rfl rfl (any_of HT_.out (by kernel_rfl)) (fun _ _ _ h => h) (Or.inl ⟨by rfl, ?_⟩) ?_ ?_
                rotate_left
                ·intro w'
                 go_simp
                 with_reducible rfl
                rotate_left
                ·simp only [Act.put, List.setIfInBounds_toArray, List.set_cons_zero, List.set_cons_succ, i64_w, i32_w]
                 rfl
                refine pure_ (i := 13) (N := some 112) (v := ?_) (a' := ?_) (bm_ 17 16383) rfl rfl (any_of HT_.out (by kernel_rfl)) (fun _ _ _ h => h) (Or.inl ⟨by rfl, ?_⟩) ?_ ?_
                rotate_left
                ·intro w'
                 go_simp
                 with_reducible rfl
                rotate_left
                ·simp only [Act.put, List.setIfInBounds_toArray, List.set_cons_zero, List.set_cons_succ, i64_w, i32_w]
                 rfl
                refine pure_ (i := 14) (N := some 113) (v := ?_) (a' := ?_) (bm_ 17 32767) rfl rfl (any_of HT_.out (by kernel_rfl)) (fun _ _ _ h => h) (Or.inl ⟨by rfl, ?_⟩) ?_ ?_
                rotate_left
                ·intro w'
                 go_simp
                 with_reducible rfl
                rotate_left
                ·simp only [Act.put, List.setIfInBounds_toArray, List.set_cons_zero, List.set_cons_succ, i64_w, i32_w]
                 rfl
                refine pure_ (i := 15) (N := some 114) (v := ?_) (a' := ?_) (bm_ 17 65535) rfl rfl (any_of HT_.out (by kernel_rfl)) (fun _ _ _ h => h) (Or.inl ⟨by rfl, ?_⟩) ?_ ?_
                rotate_left
                ·intro w'
                 go_simp
                 with_reducible rfl
                rotate_left
                ·simp only [Act.put, List.setIfInBounds_toArray, List.set_cons_zero, List.set_cons_succ, i64_w, i32_w]
                 rfl
                refine pure_ (i := 16) (N := some 6) (v := ?_) (a' := ?_) (bm_ 17 131071) rfl rfl (any_of HT_.out (by kernel_rfl)) (fun _ _ _ h => h) (Or.inl ⟨by rfl, ?_⟩) ?_ ?_
                rotate_left
                ·intro w'
                 go_simp
                 with_reducible rfl
                rotate_left
                ·simp only [Act.put, List.setIfInBounds_toArray, List.set_cons_zero, List.set_cons_succ, i64_w, i32_w]
                 rfl
                refine done_ (done_of HT_.out (by kernel_rfl)) ?_
                try go_wp2
                go_ret
                exact ⟨by first | rfl | (simp [errW_none, errW_some] <;> rfl) | (simp only [← hji13]; first | rfl | (simp [errW_none, errW_some] <;> rfl)) | (simp [*, errW_none, errW_some] <;> rfl), by repeat (first | (with_reducible first | exact HB.out | apply below_alloc | apply pw_below_drewN | apply below_drew1 | refine below_set ?_ GE572.out | refine below_set ?_ GE577.out | refine below_set ?_ GE582.out) | exact HB.out)⟩
               ·rw [if_neg c73] at H
                have c73b0 : ((decide (a2 ≤ t589)) == (t593 == 0)) = false := by first | (simp; done) | simpa using c73
                (try (have c73b1 : decide ((decide (a2 ≤ t589)) = (t593 == 0)) = false := by first | (simp; done) | simpa using c73))
                (try (have c73b2 : ((decide (a2 ≤ t589)) == (t593 == 0)) = false := by first | (simp; done) | simpa using c73))
                (try (have c73b3 : ¬ ((decide (a2 ≤ t589)) = (t593 == 0)) := by first | (simp; done) | simpa using c73))
                clear c73
                exact absurd H (by simp)
              ·rw [if_neg c70] at H
               have c70b0 : decide (1 ≤ a2) = false := decide_eq_false c70
               clear c70
               replace H := Option.bind_eq_some_iff.mp H
               obtain ⟨⟨t594, t595, t596, t597⟩, A760, H⟩ := H
               replace H : (if (false == (t597 == 0)) = true then (some true) else (none)) = some r := H
               have A76 := Aside0.mk A760
               clear A760
               by_cases c77 : (false == (t597 == 0)) = true
               ·rw [if_pos c77] at H
                have c77b0 : (false == (t597 == 0)) = true := c77
                (try (have c77b1 : decide (false = (t597 == 0)) = true := by first | (simp; done) | simpa using c77))
                (try (have c77b2 : (false == (t597 == 0)) = true := by first | (simp; done) | simpa using c77))
                clear c77
                obtain rfl := Option.some.inj H
                try go_wp2
                have n0_ := Aside0.mk (Kd.R_drew HO_11.out)
                have n1_ := Aside0.mk (blk_drew BK572.out)
                have n2_ := Aside0.mk (blk_drew BK577.out)
                have n3_ := Aside0.mk (blk_drew BK582.out)
                have n4_ := Aside0.mk (below_drew1 HB.out)
                clear HO_11
                clear BK572
                clear BK577
                clear BK582
                clear HB
                have HO_11 := n0_
                have BK572 := n1_
                have BK577 := n2_
                have BK582 := n3_
                have HB := n4_
                clear n0_ n1_ n2_ n3_ n4_
                refine start_ (n := 17) (S := fun w' => w'.cell? ⟨gb577, 0, none⟩ = some (.int .i64 t574) ∧ w'.cell? ⟨gb577, 1, none⟩ = some (.int .i64 t575) ∧ w'.cell? ⟨gb577, 2, none⟩ = some (.int .i64 t576)) (ds := []) #[false, false, false, false, false, false, false, false, false, false, false, false, false, false, false, false, false] (by kernel_rfl) rfl rfl ⟨(blk_cell BK577.out 0).trans rfl, (blk_cell BK577.out 1).trans rfl, (blk_cell BK577.out 2).trans rfl⟩ (fun hHeld => ?_); refine with_tabW warpwrightlaw25_SpanMods.tab21 warpwrightlaw25_SpanMods.bits21 (fun HT_ HW_ => ?_)
                generalize wr.drew = w78 at HO_11 BK572 BK577 BK582 HB hHeld ⊢
                refine pure_ (i := 0) (N := some 99) (v := ?_) (a' := ?_) (bm_ 17 1) rfl rfl (any_of HT_.out (by kernel_rfl)) (fun _ _ _ h => h) (Or.inl ⟨by rfl, ?_⟩) ?_ ?_
                rotate_left
                ·intro w'
                 go_simp
                 with_reducible rfl
                rotate_left
                ·simp only [Act.put, List.setIfInBounds_toArray, List.set_cons_zero, List.set_cons_succ, i64_w, i32_w]
                 rfl
                refine pure_ (i := 1) (N := some 100) (v := ?_) (a' := ?_) (bm_ 17 3) rfl rfl (any_of HT_.out (by kernel_rfl)) (fun _ _ _ h => h) (Or.inl ⟨by rfl, ?_⟩) ?_ ?_
                rotate_left
                ·intro w'
                 go_simp
                 with_reducible rfl
                rotate_left
                ·simp only [Act.put, List.setIfInBounds_toArray, List.set_cons_zero, List.set_cons_succ, i64_w, i32_w]
                 rfl
                refine pure_ (i := 2) (N := some 101) (v := ?_) (a' := ?_) (bm_ 17 7) rfl rfl (any_of HT_.out (by kernel_rfl)) (fun _ _ _ h => h) (Or.inl ⟨by rfl, ?_⟩) ?_ ?_
                rotate_left
                ·intro w'
                 go_simp
                 with_reducible rfl
                rotate_left
                ·simp only [Act.put, List.setIfInBounds_toArray, List.set_cons_zero, List.set_cons_succ, i64_w, i32_w]
                 rfl
                refine pure_ (i := 3) (N := some 102) (v := undef) (a' := ?_) (bm_ 17 15) rfl rfl (any_of HT_.out (by kernel_rfl)) (fun _ _ _ h => h) (Or.inr ⟨by rfl, rfl⟩) ?_ ?_
                rotate_left
                ·simp only [Act.put, List.setIfInBounds_toArray, List.set_cons_zero, List.set_cons_succ, i64_w, i32_w]
                 rfl
                refine pure_ (i := 4) (N := some 103) (v := undef) (a' := ?_) (bm_ 17 31) rfl rfl (any_of HT_.out (by kernel_rfl)) (fun _ _ _ h => h) (Or.inr ⟨by rfl, rfl⟩) ?_ ?_
                rotate_left
                ·simp only [Act.put, List.setIfInBounds_toArray, List.set_cons_zero, List.set_cons_succ, i64_w, i32_w]
                 rfl
                refine pure_ (i := 5) (N := some 104) (v := undef) (a' := ?_) (bm_ 17 63) rfl rfl (any_of HT_.out (by kernel_rfl)) (fun _ _ _ h => h) (Or.inr ⟨by rfl, rfl⟩) ?_ ?_
                rotate_left
                ·simp only [Act.put, List.setIfInBounds_toArray, List.set_cons_zero, List.set_cons_succ, i64_w, i32_w]
                 rfl
                refine pure_ (i := 6) (N := some 105) (v := ?_) (a' := ?_) (bm_ 17 127) rfl rfl (any_of HT_.out (by kernel_rfl)) (fun _ _ _ h => h) (Or.inl ⟨by rfl, ?_⟩) ?_ ?_
                rotate_left
                ·intro w'
                 go_simp
                 with_reducible rfl
                rotate_left
                ·simp only [Act.put, List.setIfInBounds_toArray, List.set_cons_zero, List.set_cons_succ, i64_w, i32_w]
                 rfl
                refine pure_ (i := 8) (N := some 107) (v := ?_) (a' := ?_) (bm_ 17 383) rfl rfl (any_of HT_.out (by kernel_rfl)) (fun _ _ _ h => h) (Or.inl ⟨by rfl, ?_⟩) ?_ ?_
                rotate_left
                ·intro w'
                 go_simp
                 with_reducible rfl
                rotate_left
                ·simp only [Act.put, List.setIfInBounds_toArray, List.set_cons_zero, List.set_cons_succ, i64_w, i32_w]
                 rfl
                refine take_ (i := 7) (N := some 106) (v := ?_) (a' := ?_) (bm_ 17 511) rfl rfl (take_ofW HT_.out HW_.out (by kernel_rfl)) (fun _ _ _ h => h) (Or.inl ⟨by rfl, ?_⟩) hHeld ?_ ?_
                rotate_left
                ·rintro w' ⟨s0, s1, s2⟩
                 go_simp
                 with_reducible rfl
                rotate_left
                ·simp only [Act.put, List.setIfInBounds_toArray, List.set_cons_zero, List.set_cons_succ, i64_w, i32_w]
                 rfl
                refine one_ (i := 9) (N := some 108) (bm_ 17 1023) rfl rfl (one_of HT_.out (by kernel_rfl)) (by decide) (fun K hK => ?_)
                refine goes_ Try.func22 (by kernel_rfl) rfl #[.agg #[.int .i64 t574, .int .i64 t575, .int .i64 t576], .int .i64 a2] (by rfl) rfl rfl am_ ?_
                with_reducible refine (warpwrightlaw25_mod.calls k2 t574 t575 t576 a2 t594 t595 t596 t597 _ A76.out).mono ?_
                rintro e w79 ⟨rfl, hb⟩
                refine ⟨_, rfl, ?_⟩
                have n0_ := Aside0.mk (Kd.R_below (by (with_reducible repeat (first | apply Kd.R_alloc | apply Kd.R_drewN | apply Kd.R_drew)); exact HO_11.out) hb)
                have n1_ := Aside0.mk (bb_ BK572 hb)
                have n2_ := Aside0.mk (bb_ BK577 hb)
                have n3_ := Aside0.mk (bb_ BK582 hb)
                have n4_ := Aside0.mk (below_step (bl_ HB) hb)
                clear HO_11
                clear BK572
                clear BK577
                clear BK582
                clear HB
                have HO_11 := n0_
                have BK572 := n1_
                have BK577 := n2_
                have BK582 := n3_
                have HB := n4_
                clear n0_ n1_ n2_ n3_ n4_
                (try clear hb)
                (try clear hb2)
                (try clear hk)
                (try clear hi)
                refine hK.out _ _ ⟨(blk_cell BK577.out 0).trans rfl, (blk_cell BK577.out 1).trans rfl, (blk_cell BK577.out 2).trans rfl⟩ (fun hHeld => ?_)
                clear hK K
                refine norm_ (a' := ?_) ?_ ?_
                rotate_left
                ·show Act.put _ (some 108) _ = _
                 simp only [Act.put, List.setIfInBounds_toArray, List.set_cons_zero, List.set_cons_succ, i64_w, i32_w]
                 rfl
                refine pure_ (i := 10) (N := some 109) (v := ?_) (a' := ?_) (bm_ 17 2047) rfl rfl (any_of HT_.out (by kernel_rfl)) (fun _ _ _ h => h) (Or.inl ⟨by rfl, ?_⟩) ?_ ?_
                rotate_left
                ·intro w'
                 go_simp
                 with_reducible rfl
                rotate_left
                ·simp only [Act.put, List.setIfInBounds_toArray, List.set_cons_zero, List.set_cons_succ, i64_w, i32_w]
                 rfl
                refine pure_ (i := 11) (N := some 110) (v := ?_) (a' := ?_) (bm_ 17 4095) rfl rfl (any_of HT_.out (by kernel_rfl)) (fun _ _ _ h => h) (Or.inl ⟨by rfl, ?_⟩) ?_ ?_
                rotate_left
                ·intro w'
                 go_simp
                 with_reducible rfl
                rotate_left
                ·simp only [Act.put, List.setIfInBounds_toArray, List.set_cons_zero, List.set_cons_succ, i64_w, i32_w]
                 rfl
                refine pure_ (i := 12) (N := some 111) (v := ?_) (a' := ?_) (bm_ 17 8191) rfl rfl (any_of HT_.out (by kernel_rfl)) (fun _ _ _ h => h) (Or.inl ⟨by rfl, ?_⟩) ?_ ?_
                rotate_left
                ·intro w'
                 go_simp
                 with_reducible rfl
                rotate_left
                ·simp only [Act.put, List.setIfInBounds_toArray, List.set_cons_zero, List.set_cons_succ, i64_w, i32_w]
                 rfl
                refine pure_ (i := 13) (N := some 112) (v := ?_) (a' := ?_) (bm_ 17 16383) rfl rfl (any_of HT_.out (by kernel_rfl)) (fun _ _ _ h => h) (Or.inl ⟨by rfl, ?_⟩) ?_ ?_
                rotate_left
                ·intro w'
                 go_simp
                 with_reducible rfl
                rotate_left
                ·simp only [Act.put, List.setIfInBounds_toArray, List.set_cons_zero, List.set_cons_succ, i64_w, i32_w]
                 rfl
                refine pure_ (i := 14) (N := some 113) (v := ?_) (a' := ?_) (bm_ 17 32767) rfl rfl (any_of HT_.out (by kernel_rfl)) (fun _ _ _ h => h) (Or.inl ⟨by rfl, ?_⟩) ?_ ?_
                rotate_left
                ·intro w'
                 go_simp
                 with_reducible rfl
                rotate_left
                ·simp only [Act.put, List.setIfInBounds_toArray, List.set_cons_zero, List.set_cons_succ, i64_w, i32_w]
                 rfl
                refine pure_ (i := 15) (N := some 114) (v := ?_) (a' := ?_) (bm_ 17 65535) rfl rfl (any_of HT_.out (by kernel_rfl)) (fun _ _ _ h => h) (Or.inl ⟨by rfl, ?_⟩) ?_ ?_
                rotate_left
                ·intro w'
                 go_simp
                 with_reducible rfl
                rotate_left
                ·simp only [Act.put, List.setIfInBounds_toArray, List.set_cons_zero, List.set_cons_succ, i64_w, i32_w]
                 rfl
                refine pure_ (i := 16) (N := some 6) (v := ?_) (a' := ?_) (bm_ 17 131071) rfl rfl (any_of HT_.out (by kernel_rfl)) (fun _ _ _ h => h) (Or.inl ⟨by rfl, ?_⟩) ?_ ?_
                rotate_left
                ·intro w'
                 go_simp
                 with_reducible rfl
                rotate_left
                ·simp only [Act.put, List.setIfInBounds_toArray, List.set_cons_zero, List.set_cons_succ, i64_w, i32_w]
                 rfl
                refine done_ (done_of HT_.out (by kernel_rfl)) ?_
                try go_wp2
                go_ret
                exact ⟨by first | rfl | (simp [errW_none, errW_some] <;> rfl) | (simp only [← hji13]; first | rfl | (simp [errW_none, errW_some] <;> rfl)) | (simp [*, errW_none, errW_some] <;> rfl), by repeat (first | (with_reducible first | exact HB.out | apply below_alloc | apply pw_below_drewN | apply below_drew1 | refine below_set ?_ GE572.out | refine below_set ?_ GE577.out | refine below_set ?_ GE582.out) | exact HB.out)⟩
               ·rw [if_neg c77] at H
                have c77b0 : (false == (t597 == 0)) = false := by first | (simp; done) | simpa using c77
                (try (have c77b1 : decide (false = (t597 == 0)) = false := by first | (simp; done) | simpa using c77))
                (try (have c77b2 : (false == (t597 == 0)) = false := by first | (simp; done) | simpa using c77))
                (try (have c77b3 : ¬ (false = (t597 == 0)) := by first | (simp; done) | simpa using c77))
                clear c77
                exact absurd H (by simp)
       ·rw [if_neg c15] at H
        exact absurd H (by simp)
      ·rw [if_neg c14] at H
       exact absurd H (by simp)
   ·replace c10 := Bool.eq_false_iff.mpr c10
    subst c10
    have H1 : (none) = some r := by rw [if_neg (show ¬ (false = true) by decide)] at H; exact H
    clear H
    have H := H1
    clear H1
    exact absurd H (by simp)
  ·rw [if_neg c8] at H
   exact absurd H (by simp)
 ·replace c5 := Bool.eq_false_iff.mpr c5
  subst c5
  have H1 : (none) = some r := by rw [if_neg (show ¬ (false = true) by decide)] at H; exact H
  clear H
  have H := H1
  clear H1
  exact absurd H (by simp)

end Go.Proofs.Yteghmmkhfgkdgaa.QS
