/- The law ScalarFixed: what it computes, and that this answers true. No condition. -/
import Derived.Test.YtinicfjmpdofaaaDoorLawA
set_option linter.unusedVariables false
set_option linter.unusedSimpArgs false
namespace Go.Proofs.YtinicfjmpdofaaaDoor.SX
open Go Go.Ex Go.RowKit
set_option maxRecDepth 100000

noncomputable def L6 (a b n : Int) : Tree (V × Mem × Nat) := evF C2 24 6 [.int .i32 a, .int .i32 b, .int .i16 n] [] 0
abbrev wr64 (n : Int) : Int := IntKind.i64.wrap n
def ex6 (a b : Int) : Int := wr64 (wr64 a * wr64 b)
noncomputable def pr6 (a b : Int) : Int := wr64 (65536 * wr64 (binV 15 a b))
def FW (f1 f2 : Bool) : List (Nat × Bool) := bif f1 then (bif f2 then [(6, true), (9, true), (9, false), (16, false), (4, true)] else [(6, true), (9, false), (24, true)]) else [(6, false), (34, true)]
noncomputable def FQ (a b : Int) (f1 f2 : Bool) : List Bool := bif f1 then (bif f2 then [decide (ex6 a b ≥ -140737488355328), decide (ex6 a b < 140737488355328), decide (pr6 a b > ex6 a b), decide (pr6 a b ≤ wr64 (ex6 a b - 65536)), FL a b] else [decide (ex6 a b ≥ -140737488355328), decide (ex6 a b < 140737488355328), FL a b]) else [decide (ex6 a b ≥ -140737488355328), FL a b]
def sz6 (s : Bool) (b : Int) : Int := bif s then wr64 (0 - wr64 b) else wr64 b
def sc6 (s : Bool) (a : Int) : Int := bif s then wr64 (0 - wr64 (65536 * wr64 a)) else wr64 (65536 * wr64 a)
def SW (s z0 z1 z2 : Bool) : List (Nat × Bool) := bif z0 then (bif z1 then (bif z2 then [(bif s then 10 else 4, true), (11, true), (15, true), (11, false), (20, false), (20, true)] else [(bif s then 10 else 4, true), (11, true), (15, false), (44, true)]) else [(bif s then 10 else 4, true), (11, false), (60, true)]) else [(bif s then 10 else 4, false), (72, true)]
noncomputable def fx6 (n : Int) : Bool := unV 5 (unV 4 (IntKind.i32.wrap n)) == IntKind.i32.wrap n
noncomputable def SQ (a b n : Int) (s z0 z1 z2 : Bool) : List Bool :=
  bif z0 then (bif z1 then (bif z2 then [sz6 s b != 0, decide (sc6 s a < wr64 (sz6 s b * 2147483647)), decide (sc6 s a > wr64 (wr64 (0 - sz6 s b) * 2147483647)), decide (wr64 (wr64 (binV 16 a b) * sz6 s b) > sc6 s a), decide (wr64 (wr64 (binV 16 a b) * sz6 s b) ≤ wr64 (sc6 s a - sz6 s b)), fx6 n]
    else [sz6 s b != 0, decide (sc6 s a < wr64 (sz6 s b * 2147483647)), decide (sc6 s a > wr64 (wr64 (0 - sz6 s b) * 2147483647)), fx6 n]) else [sz6 s b != 0, decide (sc6 s a < wr64 (sz6 s b * 2147483647)), fx6 n]) else [sz6 s b != 0, fx6 n]
noncomputable def E6 (a n : Int) : List Bool := [wr64 (unV 4 (IntKind.i32.wrap n)) == wr64 (65536 * wr64 n), FL a 65536, binV 15 a 65536 == a, FL a 65536, binV 16 a 65536 == a, decide (wr64 (65536 * wr64 (unV 5 a)) ≤ wr64 a), decide (wr64 (65536 * wr64 (unV 5 a)) > wr64 (wr64 a - 65536))]
theorem w6_0n (a b n : Int) (s : Bool) : path (L6 a b n) ((17, true) :: (FW false false ++ ((12, s) :: (SW s false false false ++ [(15, true), (3, true), (10, true), (3, true), (10, true), (15, true), (17, true)])))) =
    some (FL a b :: (FQ a b false false ++ (decide (wr64 b < 0) :: (SQ a b n s false false false ++ E6 a n))), (.bool true, [], 0)) := by cases s <;> kernel_rfl
theorem w6_0a (a b n : Int) (s : Bool) : path (L6 a b n) ((17, true) :: (FW false false ++ ((12, s) :: (SW s true false false ++ [(15, true), (3, true), (10, true), (3, true), (10, true), (15, true), (17, true)])))) =
    some (FL a b :: (FQ a b false false ++ (decide (wr64 b < 0) :: (SQ a b n s true false false ++ E6 a n))), (.bool true, [], 0)) := by cases s <;> kernel_rfl
theorem w6_0b (a b n : Int) (s : Bool) : path (L6 a b n) ((17, true) :: (FW false false ++ ((12, s) :: (SW s true true false ++ [(15, true), (3, true), (10, true), (3, true), (10, true), (15, true), (17, true)])))) =
    some (FL a b :: (FQ a b false false ++ (decide (wr64 b < 0) :: (SQ a b n s true true false ++ E6 a n))), (.bool true, [], 0)) := by cases s <;> kernel_rfl
theorem w6_0c (a b n : Int) (s : Bool) : path (L6 a b n) ((17, true) :: (FW false false ++ ((12, s) :: (SW s true true true ++ [(15, true), (3, true), (10, true), (3, true), (10, true), (15, true), (17, true)])))) =
    some (FL a b :: (FQ a b false false ++ (decide (wr64 b < 0) :: (SQ a b n s true true true ++ E6 a n))), (.bool true, [], 0)) := by cases s <;> kernel_rfl
theorem w6_1n (a b n : Int) (s : Bool) : path (L6 a b n) ((17, true) :: (FW true false ++ ((12, s) :: (SW s false false false ++ [(15, true), (3, true), (10, true), (3, true), (10, true), (15, true), (17, true)])))) =
    some (FL a b :: (FQ a b true false ++ (decide (wr64 b < 0) :: (SQ a b n s false false false ++ E6 a n))), (.bool true, [], 0)) := by cases s <;> kernel_rfl
theorem w6_1a (a b n : Int) (s : Bool) : path (L6 a b n) ((17, true) :: (FW true false ++ ((12, s) :: (SW s true false false ++ [(15, true), (3, true), (10, true), (3, true), (10, true), (15, true), (17, true)])))) =
    some (FL a b :: (FQ a b true false ++ (decide (wr64 b < 0) :: (SQ a b n s true false false ++ E6 a n))), (.bool true, [], 0)) := by cases s <;> kernel_rfl
theorem w6_1b (a b n : Int) (s : Bool) : path (L6 a b n) ((17, true) :: (FW true false ++ ((12, s) :: (SW s true true false ++ [(15, true), (3, true), (10, true), (3, true), (10, true), (15, true), (17, true)])))) =
    some (FL a b :: (FQ a b true false ++ (decide (wr64 b < 0) :: (SQ a b n s true true false ++ E6 a n))), (.bool true, [], 0)) := by cases s <;> kernel_rfl
theorem w6_1c (a b n : Int) (s : Bool) : path (L6 a b n) ((17, true) :: (FW true false ++ ((12, s) :: (SW s true true true ++ [(15, true), (3, true), (10, true), (3, true), (10, true), (15, true), (17, true)])))) =
    some (FL a b :: (FQ a b true false ++ (decide (wr64 b < 0) :: (SQ a b n s true true true ++ E6 a n))), (.bool true, [], 0)) := by cases s <;> kernel_rfl
theorem w6_2n (a b n : Int) (s : Bool) : path (L6 a b n) ((17, true) :: (FW true true ++ ((12, s) :: (SW s false false false ++ [(15, true), (3, true), (10, true), (3, true), (10, true), (15, true), (17, true)])))) =
    some (FL a b :: (FQ a b true true ++ (decide (wr64 b < 0) :: (SQ a b n s false false false ++ E6 a n))), (.bool true, [], 0)) := by cases s <;> kernel_rfl
theorem w6_2a (a b n : Int) (s : Bool) : path (L6 a b n) ((17, true) :: (FW true true ++ ((12, s) :: (SW s true false false ++ [(15, true), (3, true), (10, true), (3, true), (10, true), (15, true), (17, true)])))) =
    some (FL a b :: (FQ a b true true ++ (decide (wr64 b < 0) :: (SQ a b n s true false false ++ E6 a n))), (.bool true, [], 0)) := by cases s <;> kernel_rfl
theorem w6_2b (a b n : Int) (s : Bool) : path (L6 a b n) ((17, true) :: (FW true true ++ ((12, s) :: (SW s true true false ++ [(15, true), (3, true), (10, true), (3, true), (10, true), (15, true), (17, true)])))) =
    some (FL a b :: (FQ a b true true ++ (decide (wr64 b < 0) :: (SQ a b n s true true false ++ E6 a n))), (.bool true, [], 0)) := by cases s <;> kernel_rfl
theorem w6_2c (a b n : Int) (s : Bool) : path (L6 a b n) ((17, true) :: (FW true true ++ ((12, s) :: (SW s true true true ++ [(15, true), (3, true), (10, true), (3, true), (10, true), (15, true), (17, true)])))) =
    some (FL a b :: (FQ a b true true ++ (decide (wr64 b < 0) :: (SQ a b n s true true true ++ E6 a n))), (.bool true, [], 0)) := by cases s <;> kernel_rfl
theorem w6 (a b n : Int) (f1 f2 s z0 z1 z2 : Bool) : path (L6 a b n) ((17, true) :: (FW f1 f2 ++ ((12, s) :: (SW s z0 z1 z2 ++ [(15, true), (3, true), (10, true), (3, true), (10, true), (15, true), (17, true)])))) =
    some (FL a b :: (FQ a b f1 f2 ++ (decide (wr64 b < 0) :: (SQ a b n s z0 z1 z2 ++ E6 a n))), (.bool true, [], 0)) := by
  have eF : ∀ f2, FW false f2 = FW false false := fun _ => rfl
  have eG : ∀ f2, FQ a b false f2 = FQ a b false false := fun _ => rfl
  have eS : ∀ z1 z2, SW s false z1 z2 = SW s false false false := fun _ _ => rfl
  have eT : ∀ z1 z2, SQ a b n s false z1 z2 = SQ a b n s false false false := fun _ _ => rfl
  have eU : ∀ z2, SW s true false z2 = SW s true false false := fun _ => rfl
  have eV : ∀ z2, SQ a b n s true false z2 = SQ a b n s true false false := fun _ => rfl
  cases f1
  · rw [eF, eG]
    cases z0
    · rw [eS, eT]; exact w6_0n a b n s
    · cases z1
      · rw [eU, eV]; exact w6_0a a b n s
      · cases z2
        · exact w6_0b a b n s
        · exact w6_0c a b n s
  · cases f2
    · cases z0
      · rw [eS, eT]; exact w6_1n a b n s
      · cases z1
        · rw [eU, eV]; exact w6_1a a b n s
        · cases z2
          · exact w6_1b a b n s
          · exact w6_1c a b n s
    · cases z0
      · rw [eS, eT]; exact w6_2n a b n s
      · cases z1
        · rw [eU, eV]; exact w6_2a a b n s
        · cases z2
          · exact w6_2b a b n s
          · exact w6_2c a b n s
end Go.Proofs.YtinicfjmpdofaaaDoor.SX
