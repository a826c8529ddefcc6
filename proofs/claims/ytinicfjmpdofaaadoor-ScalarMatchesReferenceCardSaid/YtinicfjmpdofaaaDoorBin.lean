/- The operators for two values and for one: what the program answers. No condition. -/
import Derived.Test.YtinicfjmpdofaaaDoorOrc
import Derived.Test.YtinicfjmpdofaaaDoorPth
set_option linter.unusedVariables false
set_option linter.unusedSimpArgs false
namespace Go.Proofs.YtinicfjmpdofaaaDoor.SX
open Go Go.Ex Go.RowKit
set_option maxRecDepth 100000

def I32 (a : Int) : Prop := -2147483648 ≤ a ∧ a ≤ 2147483647
def w32 (n : Int) : Int := IntKind.i32.wrap n
theorem w32_in (n : Int) : I32 (w32 n) := by unfold I32 w32; rw [IntKind.wrap_i32]; omega
theorem w32_id {n : Int} (h : I32 n) : w32 n = n := by unfold I32 at h; unfold w32; rw [IntKind.wrap_i32]; omega
theorem w64_id {n : Int} (h : -9223372036854775808 ≤ n ∧ n ≤ 9223372036854775807) : IntKind.i64.wrap n = n := by rw [IntKind.wrap_i64]; omega
theorem w64_32 {n : Int} (h : I32 n) : IntKind.i64.wrap n = n := by unfold I32 at h; exact w64_id (by omega)
def and32 (a b : Int) : Int := w32 (BitVec.ofInt 32 a &&& BitVec.ofInt 32 b).toNat
def or32 (a b : Int) : Int := w32 (BitVec.ofInt 32 a ||| BitVec.ofInt 32 b).toNat
def xor32 (a b : Int) : Int := w32 (BitVec.ofInt 32 a ^^^ BitVec.ofInt 32 b).toNat
def not32 (a : Int) : Int := w32 (BitVec.ofInt 32 (if IntKind.i32.signed = true then -1 else IntKind.i32.max) ^^^ BitVec.ofInt 32 a).toNat
def bi (b : Bool) : Int := if b then 1 else 0
/-- What Bin computes. -/
def binV (op a b : Int) : Int :=
  if op = 10 then w32 (a + b) else if op = 11 then w32 (a - b) else if op = 12 then w32 (a * b)
  else if op = 13 then (if b = 0 then 0 else w32 (Int.tdiv a b)) else if op = 14 then (if b = 0 then a else Int.tmod a b)
  else if op = 15 then w32 (Int.fdiv (a * b) 65536) else if op = 16 then (if b = 0 then 0 else w32 (Int.fdiv (a * 65536) b))
  else if op = 17 then and32 a b else if op = 18 then or32 a b else if op = 19 then xor32 a b
  else if op = 20 then w32 (a * 2 ^ (b % 32).toNat) else if op = 21 then Int.fdiv a (2 ^ (b % 32).toNat)
  else if op = 22 then (if b < a then b else a) else if op = 23 then (if b > a then b else a)
  else if op = 24 then bi (a == b) else if op = 25 then bi (a != b) else if op = 26 then bi (decide (a < b))
  else if op = 27 then bi (decide (a ≤ b)) else if op = 28 then bi (decide (a > b)) else if op = 29 then bi (decide (a ≥ b)) else 0
def binE (op : Int) : Int := if 10 ≤ op ∧ op ≤ 29 then 0 else 1
def unV (op a : Int) : Int :=
  if op = 1 then w32 (0 - a) else if op = 2 then not32 a else if op = 3 then (if a ≥ 0 then a else w32 (0 - a))
  else if op = 4 then w32 (a * 65536) else if op = 5 then Int.fdiv a 65536 else 0
def unE (op : Int) : Int := if 1 ≤ op ∧ op ≤ 5 then 0 else 1
def r2 (v e : Int) : V := .agg [.int .i32 v, .int .i64 e]
noncomputable def T14 (op a b : Int) : Tree (V × Mem × Nat) := evF C1 24 14 [.int .i64 op, .int .i32 a, .int .i32 b] [] 0
noncomputable def T12 (op a : Int) : Tree (V × Mem × Nat) := evF C1 24 12 [.int .i64 op, .int .i32 a] [] 0
/-- Behind the division ahead. -/
def beh (b : Int) (x y : Option (V × Mem × Nat)) : Option (V × Mem × Nat) := bif b == 0 then x else bif IntKind.i64.wrap b == 0 then none else bif IntKind.i64.wrap b == 0 then none else y
theorem beh_eq {b : Int} (h : I32 b) {x y z : Option (V × Mem × Nat)} (h1 : b = 0 → x = z) (h2 : b ≠ 0 → y = z) : beh b x y = z := by
  unfold beh
  rw [w64_32 h]
  by_cases c : b = 0
  · have e : (b == 0) = true := by rw [c]; rfl
    rw [e]; exact h1 c
  · have e : (b == 0) = false := by rw [beq_eq_false_iff_ne]; exact c
    rw [e]; exact h2 c
theorem t10 (a b : Int) : (T14 10 a b).run = beh b (some (r2 (w32 (a + b)) 0, [], 0)) (some (r2 (w32 (a + b)) 0, [], 0)) := by kernel_rfl
theorem t11 (a b : Int) : (T14 11 a b).run = beh b (some (r2 (w32 (a - b)) 0, [], 0)) (some (r2 (w32 (a - b)) 0, [], 0)) := by kernel_rfl
theorem t12 (a b : Int) : (T14 12 a b).run = beh b (some (r2 (w32 (a * b)) 0, [], 0)) (some (r2 (w32 (a * b)) 0, [], 0)) := by kernel_rfl
theorem t17 (a b : Int) : (T14 17 a b).run = beh b (some (r2 (and32 a b) 0, [], 0)) (some (r2 (and32 a b) 0, [], 0)) := by kernel_rfl
theorem t18 (a b : Int) : (T14 18 a b).run = beh b (some (r2 (or32 a b) 0, [], 0)) (some (r2 (or32 a b) 0, [], 0)) := by kernel_rfl
theorem t19 (a b : Int) : (T14 19 a b).run = beh b (some (r2 (xor32 a b) 0, [], 0)) (some (r2 (xor32 a b) 0, [], 0)) := by kernel_rfl
theorem t22 (a b : Int) : (T14 22 a b).run = beh b (some (r2 (if b < a then b else a) 0, [], 0)) (some (r2 (if b < a then b else a) 0, [], 0)) := by kernel_rfl
theorem t23 (a b : Int) : (T14 23 a b).run = beh b (some (r2 (if b > a then b else a) 0, [], 0)) (some (r2 (if b > a then b else a) 0, [], 0)) := by kernel_rfl
theorem t13 (a b : Int) : (T14 13 a b).run = beh b (some (r2 0 0, [], 0)) (some (r2 (w32 (IntKind.i64.wrap (Int.tdiv (IntKind.i64.wrap a) (IntKind.i64.wrap b)))) 0, [], 0)) := by kernel_rfl
theorem t14 (a b : Int) : (T14 14 a b).run = beh b (some (r2 a 0, [], 0)) (some (r2 (w32 (Int.tmod (IntKind.i64.wrap a) (IntKind.i64.wrap b))) 0, [], 0)) := by kernel_rfl
theorem t15 (a b : Int) : (T14 15 a b).run = beh b (some (r2 (w32 (Int.fdiv (IntKind.i64.wrap (IntKind.i64.wrap a * IntKind.i64.wrap b)) 65536)) 0, [], 0)) (some (r2 (w32 (Int.fdiv (IntKind.i64.wrap (IntKind.i64.wrap a * IntKind.i64.wrap b)) 65536)) 0, [], 0)) := by kernel_rfl
def d16 (a b : Int) : Option (V × Mem × Nat) :=
  bif b == 0 then some (r2 0 0, [], 0) else bif IntKind.i64.wrap b == 0 then none else bif IntKind.i64.wrap b == 0 then none else
  bif Int.tmod (IntKind.i64.wrap (IntKind.i64.wrap a * 65536)) (IntKind.i64.wrap b) != 0 then
    bif !(decide (Int.tmod (IntKind.i64.wrap (IntKind.i64.wrap a * 65536)) (IntKind.i64.wrap b) < 0) == decide (IntKind.i64.wrap b < 0)) then
      some (r2 (w32 (IntKind.i64.wrap (IntKind.i64.wrap (Int.tdiv (IntKind.i64.wrap (IntKind.i64.wrap a * 65536)) (IntKind.i64.wrap b)) - 1))) 0, [], 0)
    else some (r2 (w32 (IntKind.i64.wrap (Int.tdiv (IntKind.i64.wrap (IntKind.i64.wrap a * 65536)) (IntKind.i64.wrap b)))) 0, [], 0)
  else some (r2 (w32 (IntKind.i64.wrap (Int.tdiv (IntKind.i64.wrap (IntKind.i64.wrap a * 65536)) (IntKind.i64.wrap b)))) 0, [], 0)
theorem t16 (a b : Int) : (T14 16 a b).run = beh b (d16 a b) (d16 a b) := by kernel_rfl
def m31 (b : Int) : Int := IntKind.i32.wrap (BitVec.ofInt 32 b &&& BitVec.ofInt 32 31).toNat
def d20 (a b : Int) : Option (V × Mem × Nat) := bif decide (m31 b < 0) then none else some (r2 (w32 (a * 2 ^ min (m31 b).toNat 32)) 0, [], 0)
theorem t20 (a b : Int) : (T14 20 a b).run = beh b (d20 a b) (d20 a b) := by kernel_rfl
def d21 (a b : Int) : Option (V × Mem × Nat) := bif decide (m31 b < 0) then none else some (r2 (Int.fdiv a (2 ^ min (m31 b).toNat 32)) 0, [], 0)
theorem t21 (a b : Int) : (T14 21 a b).run = beh b (d21 a b) (d21 a b) := by kernel_rfl
def d24 (c : Bool) : Option (V × Mem × Nat) := bif c then some (r2 1 0, [], 0) else some (r2 0 0, [], 0)
theorem t24 (a b : Int) : (T14 24 a b).run = beh b (d24 (a == b)) (d24 (a == b)) := by kernel_rfl
theorem t25 (a b : Int) : (T14 25 a b).run = beh b (d24 (a != b)) (d24 (a != b)) := by kernel_rfl
theorem t26 (a b : Int) : (T14 26 a b).run = beh b (d24 (decide (a < b))) (d24 (decide (a < b))) := by kernel_rfl
theorem t27 (a b : Int) : (T14 27 a b).run = beh b (d24 (decide (a ≤ b))) (d24 (decide (a ≤ b))) := by kernel_rfl
theorem t28 (a b : Int) : (T14 28 a b).run = beh b (d24 (decide (a > b))) (d24 (decide (a > b))) := by kernel_rfl
theorem t29 (a b : Int) : (T14 29 a b).run = beh b (d24 (decide (a ≥ b))) (d24 (decide (a ≥ b))) := by kernel_rfl
theorem t0a (op a b : Int) : path (T14 op a b) [(20, true), (12, false), (3, false), (3, false), (3, false), (3, false), (3, false), (3, false), (3, false), (3, false), (3, false), (3, false), (3, false), (3, false), (3, false), (10, false), (3, false), (3, false), (3, false), (3, false), (3, false)] = some ((b == 0) :: [op == 10, op == 11, op == 12, op == 13, op == 14, op == 15, op == 16, op == 17, op == 18, op == 19, op == 20, op == 21, op == 22, op == 23, op == 24, op == 25, op == 26, op == 27, op == 28, op == 29], (r2 0 1, [], 0)) := by kernel_rfl
theorem t0b (op a b : Int) : path (T14 op a b) [(20, false), (10, false), (4, false), (12, false), (3, false), (3, false), (3, false), (3, false), (3, false), (3, false), (3, false), (3, false), (3, false), (3, false), (3, false), (3, false), (3, false), (10, false), (3, false), (3, false), (3, false), (3, false), (3, false)] = some ((b == 0) :: (IntKind.i64.wrap b == 0) :: (IntKind.i64.wrap b == 0) :: [op == 10, op == 11, op == 12, op == 13, op == 14, op == 15, op == 16, op == 17, op == 18, op == 19, op == 20, op == 21, op == 22, op == 23, op == 24, op == 25, op == 26, op == 27, op == 28, op == 29], (r2 0 1, [], 0)) := by kernel_rfl
theorem u1 (a : Int) : (T12 1 a).run = some (r2 (w32 (0 - a)) 0, [], 0) := by kernel_rfl
theorem u2 (a : Int) : (T12 2 a).run = some (r2 (not32 a) 0, [], 0) := by kernel_rfl
theorem u3 (a : Int) : (T12 3 a).run = bif decide (a ≥ 0) then some (r2 a 0, [], 0) else some (r2 (w32 (0 - a)) 0, [], 0) := by kernel_rfl
theorem u4 (a : Int) : (T12 4 a).run = some (r2 (w32 (a * 65536)) 0, [], 0) := by kernel_rfl
theorem u5 (a : Int) : (T12 5 a).run = some (r2 (Int.fdiv a 65536) 0, [], 0) := by kernel_rfl
theorem u0 (op a : Int) : path (T12 op a) [(9, false), (3, false), (3, false), (3, false), (3, false)] = some ([op == 3, op == 1, op == 2, op == 4, op == 5], (r2 0 1, [], 0)) := by kernel_rfl

/-! ### What it comes to -/
theorem m31_eq (b : Int) : m31 b = b % 32 := by
  have e : (BitVec.ofInt 32 b &&& BitVec.ofInt 32 31).toNat = (b % 32).toNat := by
    rw [BitVec.toNat_and, BitVec.toNat_ofInt, BitVec.toNat_ofInt]
    have h : ((31 : Int) % (2 ^ 32 : Nat)).toNat = 2 ^ 5 - 1 := by decide
    rw [h, Nat.and_two_pow_sub_one_eq_mod]; omega
  unfold m31
  rw [e, IntKind.wrap_i32]; omega
theorem min31 (b : Int) : min (b % 32).toNat 32 = (b % 32).toNat := by omega
theorem tdiv_bd {a b : Int} (ha : -140737488355328 ≤ a ∧ a ≤ 140737488355328) : -140737488355328 ≤ Int.tdiv a b ∧ Int.tdiv a b ≤ 140737488355328 := by
  have := Int.natAbs_tdiv_le_natAbs a b; omega
theorem fdiv_tdiv {a b : Int} (hb : b ≠ 0) : Int.fdiv a b = if Int.tmod a b ≠ 0 ∧ ¬ ((Int.tmod a b < 0) ↔ (b < 0)) then Int.tdiv a b - 1 else Int.tdiv a b := by
  have e1 := Int.tmod_add_mul_tdiv a b
  have e2 := Int.fmod_add_mul_fdiv a b
  have h1 := Int.natAbs_tmod a b
  have hlt : (Int.tmod a b).natAbs < b.natAbs := by rw [h1]; exact Nat.mod_lt _ (by omega)
  rcases Int.lt_or_gt_of_ne hb with hn | hp
  · have f0 : Int.fmod a b ≤ 0 ∧ b < Int.fmod a b := by
      have g0 := Int.emod_nonneg a hb
      have g1 := Int.emod_lt a hb
      rw [Int.fmod_eq_emod]
      by_cases hd : b ∣ a
      · rw [if_pos (.inr hd), Int.emod_eq_zero_of_dvd hd]; omega
      · rw [if_neg (by rintro (q | q); · omega
                       · exact hd q)]
        have : a % b ≠ 0 := fun q => hd (Int.dvd_of_emod_eq_zero q)
        omega
    obtain ⟨f1, f2⟩ := f0
    generalize Int.tmod a b = r at *
    generalize Int.fmod a b = s at *
    have key : b * (Int.fdiv a b - Int.tdiv a b) = r - s := by rw [Int.mul_sub]; omega
    generalize Int.fdiv a b = p at *
    generalize Int.tdiv a b = q at *
    have hk : p - q = 0 ∨ p - q = -1 := by
      rcases Int.lt_trichotomy (p - q) 0 with h | h | h
      · right
        have hh : ¬ (p - q ≤ -2) := by
          intro h2
          have := Int.mul_le_mul_of_nonpos_left (show b ≤ 0 by omega) h2
          omega
        omega
      · left; exact h
      · exfalso
        have := Int.mul_le_mul_of_nonpos_left (show b ≤ 0 by omega) (show 1 ≤ p - q by omega)
        omega
    rcases hk with hk | hk
    · rw [hk, Int.mul_zero] at key
      rw [if_neg (by rintro ⟨g1, g2⟩; apply g2; constructor <;> intro _ <;> omega)]; omega
    · rw [hk] at key
      rw [if_pos ⟨by omega, by rintro ⟨g1, g2⟩; have := g2 hn; omega⟩]; omega
  · have f1 := Int.fmod_nonneg_of_pos a hp
    have f2 := Int.fmod_lt_of_pos a hp
    generalize Int.tmod a b = r at *
    generalize Int.fmod a b = s at *
    have key : b * (Int.fdiv a b - Int.tdiv a b) = r - s := by rw [Int.mul_sub]; omega
    generalize Int.fdiv a b = p at *
    generalize Int.tdiv a b = q at *
    have hk : p - q = 0 ∨ p - q = -1 := by
      rcases Int.lt_trichotomy (p - q) 0 with h | h | h
      · right
        have hh : ¬ (p - q ≤ -2) := by
          intro h2
          have := Int.mul_le_mul_of_nonneg_left h2 (show 0 ≤ b by omega)
          omega
        omega
      · left; exact h
      · exfalso
        have := Int.mul_le_mul_of_nonneg_left (show 1 ≤ p - q by omega) (show 0 ≤ b by omega)
        omega
    rcases hk with hk | hk
    · rw [hk, Int.mul_zero] at key
      rw [if_neg (by rintro ⟨g1, g2⟩; apply g2; constructor <;> intro _ <;> omega)]; omega
    · rw [hk] at key
      rw [if_pos ⟨by omega, by rintro ⟨g1, g2⟩; have := g1 (by omega); omega⟩]; omega
theorem mul_bd {a b : Int} (ha : I32 a) (hb : I32 b) : -4611686018427387904 ≤ a * b ∧ a * b ≤ 4611686018427387904 := by
  unfold I32 at *
  have e := Int.natAbs_mul a b
  have : a.natAbs * b.natAbs ≤ 2147483648 * 2147483648 := Nat.mul_le_mul (by omega) (by omega)
  omega
theorem d16_eq {a b : Int} (ha : I32 a) (hb : I32 b) : d16 a b = some (r2 (if b = 0 then 0 else w32 (Int.fdiv (a * 65536) b)) 0, [], 0) := by
  unfold d16
  have ha' := ha
  unfold I32 at ha'
  rw [w64_32 ha, w64_32 hb, w64_id (n := a * 65536) (by omega)]
  have bd := tdiv_bd (a := a * 65536) (b := b) (by omega)
  rw [w64_id (n := Int.tdiv (a * 65536) b) (by omega), w64_id (n := Int.tdiv (a * 65536) b - 1) (by omega)]
  by_cases c : b = 0
  · simp [c]
  · have e : (b == 0) = false := by rw [beq_eq_false_iff_ne]; exact c
    rw [e, if_neg c, fdiv_tdiv c]
    simp only [cond_false]
    by_cases c1 : Int.tmod (a * 65536) b = 0
    · simp [c1]
    · have e1 : (Int.tmod (a * 65536) b != 0) = true := by simp [c1]
      rw [e1]
      simp only [cond_true]
      by_cases c2 : Int.tmod (a * 65536) b < 0 <;> by_cases c3 : b < 0 <;> simp [c1, c2, c3]
theorem bi_cond (c : Bool) : d24 c = some (r2 (bi c) 0, [], 0) := by cases c <;> rfl
theorem T14_run {op a b : Int} (ha : I32 a) (hb : I32 b) : (T14 op a b).run = some (r2 (binV op a b) (binE op), [], 0) := by
  have hop : op = 10 ∨ op = 11 ∨ op = 12 ∨ op = 13 ∨ op = 14 ∨ op = 15 ∨ op = 16 ∨ op = 17 ∨ op = 18 ∨ op = 19 ∨ op = 20 ∨ op = 21 ∨ op = 22 ∨ op = 23 ∨ op = 24 ∨ op = 25 ∨ op = 26 ∨ op = 27 ∨ op = 28 ∨ op = 29 ∨ ¬ (10 ≤ op ∧ op ≤ 29) := by omega
  have ha' := ha
  have hb' := hb
  unfold I32 at ha' hb'
  rcases hop with rfl | rfl | rfl | rfl | rfl | rfl | rfl | rfl | rfl | rfl | rfl | rfl | rfl | rfl | rfl | rfl | rfl | rfl | rfl | rfl | hop
  · rw [t10]; exact beh_eq hb (fun _ => rfl) (fun _ => rfl)
  · rw [t11]; exact beh_eq hb (fun _ => rfl) (fun _ => rfl)
  · rw [t12]; exact beh_eq hb (fun _ => rfl) (fun _ => rfl)
  · rw [t13]; refine beh_eq hb (fun h => by rw [h]; rfl) (fun h => ?_)
    have bd := tdiv_bd (a := a) (b := b) (by omega)
    rw [w64_32 ha, w64_32 hb, w64_id (n := Int.tdiv a b) (by omega)]
    simp [binV, binE, h]
  · rw [t14]; refine beh_eq hb (fun h => by rw [h]; rfl) (fun h => ?_)
    rw [w64_32 ha, w64_32 hb]
    have hr : I32 (Int.tmod a b) := by
      have h1 := Int.natAbs_tmod a b
      have : (Int.tmod a b).natAbs < b.natAbs := by rw [h1]; exact Nat.mod_lt _ (by omega)
      unfold I32; omega
    rw [w32_id hr]; simp [binV, binE, h]
  · rw [t15, w64_32 ha, w64_32 hb, w64_id (by have := mul_bd ha hb; omega)]; exact beh_eq hb (fun _ => rfl) (fun _ => rfl)
  · rw [t16]; rw [d16_eq ha hb]; exact beh_eq hb (fun _ => rfl) (fun _ => rfl)
  · rw [t17]; exact beh_eq hb (fun _ => rfl) (fun _ => rfl)
  · rw [t18]; exact beh_eq hb (fun _ => rfl) (fun _ => rfl)
  · rw [t19]; exact beh_eq hb (fun _ => rfl) (fun _ => rfl)
  · rw [t20]
    have : d20 a b = some (r2 (w32 (a * 2 ^ (b % 32).toNat)) 0, [], 0) := by
      unfold d20; rw [m31_eq, min31, decide_eq_false (by omega)]; rfl
    rw [this]; exact beh_eq hb (fun _ => rfl) (fun _ => rfl)
  · rw [t21]
    have : d21 a b = some (r2 (Int.fdiv a (2 ^ (b % 32).toNat)) 0, [], 0) := by
      unfold d21; rw [m31_eq, min31, decide_eq_false (by omega)]; rfl
    rw [this]; exact beh_eq hb (fun _ => rfl) (fun _ => rfl)
  · rw [t22]; exact beh_eq hb (fun _ => rfl) (fun _ => rfl)
  · rw [t23]; exact beh_eq hb (fun _ => rfl) (fun _ => rfl)
  · rw [t24, bi_cond]; exact beh_eq hb (fun _ => rfl) (fun _ => rfl)
  · rw [t25, bi_cond]; exact beh_eq hb (fun _ => rfl) (fun _ => rfl)
  · rw [t26, bi_cond]; exact beh_eq hb (fun _ => rfl) (fun _ => rfl)
  · rw [t27, bi_cond]; exact beh_eq hb (fun _ => rfl) (fun _ => rfl)
  · rw [t28, bi_cond]; exact beh_eq hb (fun _ => rfl) (fun _ => rfl)
  · rw [t29, bi_cond]; exact beh_eq hb (fun _ => rfl) (fun _ => rfl)
  · have ev : binV op a b = 0 := by unfold binV; repeat rw [if_neg (by omega)]
    have ee : binE op = 1 := by unfold binE; rw [if_neg hop]
    rw [ev, ee]
    have hne : ∀ k : Int, 10 ≤ k → k ≤ 29 → (op == k) = false := fun k h1 h2 => by rw [beq_eq_false_iff_ne]; omega
    by_cases c : b = 0
    · have e : (b == 0) = true := by rw [c]; rfl
      refine path_run ((t0a op a b).trans ?_)
      rw [e]
      simp only [List.map_cons, List.map_nil, hne 10 (by decide) (by decide), hne 11 (by decide) (by decide), hne 12 (by decide) (by decide), hne 13 (by decide) (by decide), hne 14 (by decide) (by decide), hne 15 (by decide) (by decide), hne 16 (by decide) (by decide), hne 17 (by decide) (by decide), hne 18 (by decide) (by decide), hne 19 (by decide) (by decide), hne 20 (by decide) (by decide), hne 21 (by decide) (by decide), hne 22 (by decide) (by decide), hne 23 (by decide) (by decide), hne 24 (by decide) (by decide), hne 25 (by decide) (by decide), hne 26 (by decide) (by decide), hne 27 (by decide) (by decide), hne 28 (by decide) (by decide), hne 29 (by decide) (by decide)]
    · have e : (b == 0) = false := by rw [beq_eq_false_iff_ne]; exact c
      refine path_run ((t0b op a b).trans ?_)
      rw [w64_32 hb, e]
      simp only [List.map_cons, List.map_nil, hne 10 (by decide) (by decide), hne 11 (by decide) (by decide), hne 12 (by decide) (by decide), hne 13 (by decide) (by decide), hne 14 (by decide) (by decide), hne 15 (by decide) (by decide), hne 16 (by decide) (by decide), hne 17 (by decide) (by decide), hne 18 (by decide) (by decide), hne 19 (by decide) (by decide), hne 20 (by decide) (by decide), hne 21 (by decide) (by decide), hne 22 (by decide) (by decide), hne 23 (by decide) (by decide), hne 24 (by decide) (by decide), hne 25 (by decide) (by decide), hne 26 (by decide) (by decide), hne 27 (by decide) (by decide), hne 28 (by decide) (by decide), hne 29 (by decide) (by decide)]
theorem T12_run (op a : Int) : (T12 op a).run = some (r2 (unV op a) (unE op), [], 0) := by
  have hop : op = 1 ∨ op = 2 ∨ op = 3 ∨ op = 4 ∨ op = 5 ∨ ¬ (1 ≤ op ∧ op ≤ 5) := by omega
  rcases hop with rfl | rfl | rfl | rfl | rfl | hop
  · rw [u1]; rfl
  · rw [u2]; rfl
  · rw [u3]
    by_cases c : a ≥ 0
    · simp [unV, unE, c]
    · simp [unV, unE, c]
  · rw [u4]; rfl
  · rw [u5]; rfl
  · have ev : unV op a = 0 := by unfold unV; repeat rw [if_neg (by omega)]
    have ee : unE op = 1 := by unfold unE; rw [if_neg hop]
    rw [ev, ee]
    have hne : ∀ k : Int, 1 ≤ k → k ≤ 5 → (op == k) = false := fun k h1 h2 => by rw [beq_eq_false_iff_ne]; omega
    refine path_run ((u0 op a).trans ?_)
    simp only [List.map_cons, List.map_nil, hne 1 (by decide) (by decide), hne 2 (by decide) (by decide), hne 3 (by decide) (by decide), hne 4 (by decide) (by decide), hne 5 (by decide) (by decide)]
/-! ### The contracts -/
noncomputable def i32 (a : Int) : Bool := cdec (I32 a)
noncomputable def o14 : Orc := ⟨14, fun | [.int .i64 op, .int .i32 a, .int .i32 b] => some (cdec (I32 a ∧ I32 b), r2 (binV op a b) (binE op)) | _ => none⟩
theorem o14_ok : OrcOk Tryd.prog noG o14 := orc_plain fun args v h => by
  simp only [o14] at h
  split at h
  · rename_i op a b
    obtain ⟨h1, rfl⟩ := Prod.mk.inj (Option.some.inj h)
    obtain ⟨ha, hb⟩ := of_cdec h1
    exact ⟨_, _, rfl, rfl, fun w hw => evF_calls C1_ok (T14_run ha hb) rfl rfl hw⟩
  · cases h
def o12 : Orc := ⟨12, fun | [.int .i64 op, .int .i32 a] => some (true, r2 (unV op a) (unE op)) | _ => none⟩
theorem o12_ok : OrcOk Tryd.prog noG o12 := orc_plain fun args v h => by
  simp only [o12] at h
  split at h
  · rename_i op a
    obtain ⟨h1, rfl⟩ := Prod.mk.inj (Option.some.inj h)
    exact ⟨_, _, rfl, rfl, fun w hw => evF_calls C1_ok (T12_run op a) rfl rfl hw⟩
  · cases h
noncomputable def C2 : Cfg := mkC Tryd.prog noG eqT [oEx, o14, o12]
theorem C2_ok : C2.Ok := mkC_ok mixed (names_of names) eqs (by
  intro o ho
  simp only [List.mem_cons, List.not_mem_nil, or_false] at ho
  rcases ho with rfl | rfl | rfl
  · exact oEx_ok
  · exact o14_ok
  · exact o12_ok)
end Go.Proofs.YtinicfjmpdofaaaDoor.SX
