/- The law ScalarBits: what it computes, and that this answers true. No condition. -/
import Derived.Test.YtinicfjmpdofaaaDoorLawBm
set_option linter.unusedVariables false
set_option linter.unusedSimpArgs false
namespace Go.Proofs.YtinicfjmpdofaaaDoor.SX
open Go Go.Ex Go.RowKit
set_option maxRecDepth 100000

noncomputable def L7 (a b n : Int) : Tree (V × Mem × Nat) := evF C2 24 7 [.int .i32 a, .int .i32 b, .int .u8 n] [] 0
abbrev M7 (n : Int) : Int := IntKind.i32.wrap (n.tmod 32)
abbrev p7 (n : Int) : Int := IntKind.i64.wrap (1 * 2 ^ min (IntKind.u64.wrap (M7 n)).toNat 64)
noncomputable def Q7 (a b n : Int) : List Bool :=
  [FL a b, FL a b, FL a b, FL (unV 2 a) (unV 2 b), unV 2 (binV 17 a b) != binV 18 (unV 2 a) (unV 2 b), FL (binV 19 a b) b, binV 19 (binV 19 a b) b != a, FL (binV 17 a b) (binV 18 a b), FL a b, binV 10 (binV 17 a b) (binV 18 a b) != binV 10 a b,
   FL (binV 17 a b) (binV 19 a b), binV 10 (binV 17 a b) (binV 19 a b) != binV 18 a b, FL 1 (M7 n), FL a (M7 n), FL a (M7 n), FL a (binV 20 1 (M7 n)), binV 20 a (M7 n) != binV 12 a (binV 20 1 (M7 n)),
   FL a (IntKind.i32.wrap (M7 n + 32)), FL a (M7 n), binV 20 a (IntKind.i32.wrap (M7 n + 32)) != binV 20 a (M7 n), FL a (IntKind.i32.wrap (M7 n - 64)), FL a (M7 n), binV 21 a (IntKind.i32.wrap (M7 n - 64)) != binV 21 a (M7 n),
   decide (IntKind.u64.wrap (M7 n) < 0), decide (IntKind.i64.wrap (IntKind.i64.wrap (binV 21 a (M7 n)) * p7 n) ≤ IntKind.i64.wrap a), decide (IntKind.u64.wrap (M7 n) < 0),
   decide (IntKind.i64.wrap (IntKind.i64.wrap (IntKind.i64.wrap (binV 21 a (M7 n)) + 1) * p7 n) > IntKind.i64.wrap a)]
theorem w7 (a b n : Int) : path (L7 a b n) [(16, true), (4, true), (4, true), (17, true), (3, false), (5, true), (10, false), (5, true), (8, true), (8, false), (5, true), (9, false), (3, true), (5, true), (6, true), (4, true), (3, false), (7, true), (8, true), (8, false), (7, true), (8, true), (7, false), (5, false), (5, true), (9, false), (12, true)] =
    some (Q7 a b n, (.bool true, [], 0)) := by kernel_rfl

theorem w32_emod {x y : Int} (h : x % 4294967296 = y % 4294967296) : w32 x = w32 y := by
  unfold w32; rw [IntKind.wrap_i32, IntKind.wrap_i32]; omega
theorem B32_w (v : BitVec 32) : BitVec.ofInt 32 (w32 v.toNat) = v := by
  apply BitVec.eq_of_toNat_eq
  rw [BitVec.toNat_ofInt]
  have := v.isLt
  unfold w32; rw [IntKind.wrap_i32]
  omega
theorem w_B32 {x : Int} (h : I32 x) : w32 (BitVec.ofInt 32 x).toNat = x := by
  rw [BitVec.toNat_ofInt]
  unfold I32 at h
  unfold w32; rw [IntKind.wrap_i32]
  omega
theorem w_B32' (x : Int) : w32 (BitVec.ofInt 32 x).toNat = w32 x := by
  rw [BitVec.toNat_ofInt]
  apply w32_emod; omega
theorem w_add (x y : BitVec 32) : w32 (w32 x.toNat + w32 y.toNat) = w32 (x + y).toNat := by
  rw [w32_add_l, w32_add_r, BitVec.toNat_add]
  apply w32_emod; omega
theorem not32_eq (x : Int) : not32 x = w32 (~~~ (BitVec.ofInt 32 x)).toNat := by
  show w32 (BitVec.ofInt 32 (-1) ^^^ BitVec.ofInt 32 x).toNat = _
  rw [show BitVec.ofInt 32 (-1) = BitVec.allOnes 32 by decide, BitVec.allOnes_xor]
theorem demorgan (a b : Int) : not32 (and32 a b) = or32 (not32 a) (not32 b) := by
  rw [not32_eq, not32_eq, not32_eq]
  unfold and32 or32
  rw [B32_w, B32_w, B32_w, BitVec.not_and]
theorem xor_back {a : Int} (ha : I32 a) (b : Int) : xor32 (xor32 a b) b = a := by
  unfold xor32
  rw [B32_w, BitVec.xor_assoc, BitVec.xor_self, BitVec.xor_zero, w_B32 ha]
theorem nat_ao : ∀ n x y : Nat, x < 2 ^ n → y < 2 ^ n → (x &&& y) + (x ||| y) = x + y
  | 0, x, y, h1, h2 => by
    obtain rfl : x = 0 := by omega
    obtain rfl : y = 0 := by omega
    rfl
  | n + 1, x, y, h1, h2 => by
    have ih := nat_ao n (x / 2) (y / 2) (by omega) (by omega)
    have a1 : (x &&& y) / 2 = x / 2 &&& y / 2 := Nat.and_div_two
    have o1 : (x ||| y) / 2 = x / 2 ||| y / 2 := Nat.or_div_two
    rw [← a1, ← o1] at ih
    clear a1 o1
    have a2 : (x &&& y) % 2 = (x % 2) &&& (y % 2) := Nat.and_mod_two_pow (n := 1)
    have o2 : (x ||| y) % 2 = (x % 2) ||| (y % 2) := Nat.or_mod_two_pow (n := 1)
    rcases Nat.mod_two_eq_zero_or_one x with hx | hx <;> rcases Nat.mod_two_eq_zero_or_one y with hy | hy <;> rw [hx, hy] at a2 o2 <;> simp only [Nat.and_self, Nat.or_self, Nat.zero_and, Nat.and_zero, Nat.zero_or, Nat.or_zero] at a2 o2 <;> omega
theorem bv_ao (x y : BitVec 32) : (x &&& y) + (x ||| y) = x + y := by
  apply BitVec.eq_of_toNat_eq
  rw [BitVec.toNat_add, BitVec.toNat_add, BitVec.toNat_and, BitVec.toNat_or, nat_ao 32 _ _ x.isLt y.isLt]
theorem and_or_add (a b : Int) : w32 (and32 a b + or32 a b) = w32 (a + b) := by
  unfold and32 or32
  rw [w_add, bv_ao]
  rw [← w_add, w_B32', w_B32', w32_add_l, w32_add_r]
theorem and_xor_add (a b : Int) : w32 (and32 a b + xor32 a b) = or32 a b := by
  unfold and32 xor32 or32
  rw [w_add]
  have h : (BitVec.ofInt 32 a &&& BitVec.ofInt 32 b) &&& (BitVec.ofInt 32 a ^^^ BitVec.ofInt 32 b) = 0#32 := by
    ext i; simp; cases (BitVec.ofInt 32 a)[i] <;> cases (BitVec.ofInt 32 b)[i] <;> simp
  rw [BitVec.add_eq_or_of_and_eq_zero _ _ h]
  congr 2
  apply congrArg
  ext i; simp; cases (BitVec.ofInt 32 a)[i] <;> cases (BitVec.ofInt 32 b)[i] <;> simp
theorem bits_run {a b n : Int} (ha : I32 a) (hb : I32 b) (hn : 0 ≤ n ∧ n ≤ 255) : (L7 a b n).run = fT := by
  refine path_run ((w7 a b n).trans ?_)
  have bin := fun op {x y : Int} (hx : I32 x) (hy : I32 y) => binV_in op hx hy
  have em : M7 n = n % 32 := by
    show w32 (n.tmod 32) = _
    rw [Int.tmod_eq_emod_of_nonneg hn.1, w32_id (by unfold I32; omega)]
  have hm : 0 ≤ M7 n ∧ M7 n ≤ 31 := by rw [em]; omega
  have hmi : I32 (M7 n) := by unfold I32; omega
  have e1 : unV 2 (binV 17 a b) = binV 18 (unV 2 a) (unV 2 b) := demorgan a b
  have e2 : binV 19 (binV 19 a b) b = a := xor_back ha b
  have e3 : binV 10 (binV 17 a b) (binV 18 a b) = binV 10 a b := and_or_add a b
  have e4 : binV 10 (binV 17 a b) (binV 19 a b) = binV 18 a b := and_xor_add a b
  have b20 : ∀ x y, binV 20 x y = w32 (x * 2 ^ (y % 32).toNat) := fun _ _ => rfl
  have b21 : ∀ x y, binV 21 x y = Int.fdiv x (2 ^ (y % 32).toNat) := fun _ _ => rfl
  have b12 : ∀ x y, binV 12 x y = w32 (x * y) := fun _ _ => rfl
  have e5 : binV 20 a (M7 n) = binV 12 a (binV 20 1 (M7 n)) := by rw [b20, b20, b12, w32_mul_r, Int.one_mul]
  have e6 : binV 20 a (IntKind.i32.wrap (M7 n + 32)) = binV 20 a (M7 n) := by
    have : IntKind.i32.wrap (M7 n + 32) = M7 n + 32 := w32_id (by unfold I32; omega)
    rw [b20, b20, this, Int.add_emod_right]
  have e7 : binV 21 a (IntKind.i32.wrap (M7 n - 64)) = binV 21 a (M7 n) := by
    have : IntKind.i32.wrap (M7 n - 64) = M7 n - 64 := w32_id (by unfold I32; omega)
    rw [b21, b21, this]; congr 3; omega
  have e8 : IntKind.u64.wrap (M7 n) = M7 n := by rw [IntKind.wrap_u64]; omega
  have ep : p7 n = 2 ^ (M7 n).toNat ∧ 0 < p7 n ∧ p7 n ≤ 2147483648 := by
    have h1 : (2 : Int) ^ (M7 n).toNat ≤ 2 ^ 31 := by
      have : (2 : Nat) ^ (M7 n).toNat ≤ 2 ^ 31 := Nat.pow_le_pow_right (by decide) (by omega)
      exact_mod_cast this
    have h2 : (0 : Int) < 2 ^ (M7 n).toNat := Int.pow_pos (by decide)
    have e : p7 n = 2 ^ (M7 n).toNat := by
      show IntKind.i64.wrap (1 * 2 ^ min (IntKind.u64.wrap (M7 n)).toNat 64) = _
      rw [e8, show min (M7 n).toNat 64 = (M7 n).toNat by omega, Int.one_mul, w64_id (by omega)]
    exact ⟨e, by rw [e]; exact h2, by rw [e]; exact h1⟩
  have e9 : binV 21 a (M7 n) = Int.fdiv a (p7 n) := by
    rw [b21, ep.1]; congr 3; omega
  have bd := floor_bd a ep.2.1
  have hq := bin 21 ha hmi
  have hA := ha
  unfold I32 at hA
  have c1 : decide (IntKind.i64.wrap (IntKind.i64.wrap (binV 21 a (M7 n)) * p7 n) ≤ IntKind.i64.wrap a) = true := by
    rw [w64_32 hq, e9, w64_32 ha, w64_id (by omega)]; exact decide_eq_true bd.1
  have c2 : decide (IntKind.i64.wrap (IntKind.i64.wrap (IntKind.i64.wrap (binV 21 a (M7 n)) + 1) * p7 n) > IntKind.i64.wrap a) = true := by
    rw [w64_32 hq, w64_id (n := binV 21 a (M7 n) + 1) (by unfold I32 at hq; omega), e9, w64_32 ha, Int.add_mul, Int.one_mul, w64_id (by omega)]; exact decide_eq_true bd.2
  have c3 : decide (IntKind.u64.wrap (M7 n) < 0) = false := by rw [e8]; exact decide_eq_false (by omega)
  unfold Q7
  rw [FL_t ha hb, FL_t (unV_in 2 ha) (unV_in 2 hb), FL_t (bin 19 ha hb) hb, FL_t (bin 17 ha hb) (bin 18 ha hb), FL_t (bin 17 ha hb) (bin 19 ha hb), FL_t i1 hmi, FL_t ha hmi, FL_t ha (bin 20 i1 hmi),
    FL_t (y := IntKind.i32.wrap (M7 n + 32)) ha (w32_in _), FL_t (y := IntKind.i32.wrap (M7 n - 64)) ha (w32_in _), nef e1, nef e2, nef e3, nef e4, nef e5, nef e6, nef e7, c1, c2, c3]
  rfl
theorem bits_calls {a b n : Int} (ha : (Lit.int .i32 a).wf = true) (hb : (Lit.int .i32 b).wf = true) (hn : (Lit.int .u8 n).wf = true) (w : World) :
    Calls Tryd.prog 7 #[.int .i32 a, .int .i32 b, .int .u8 n] w fun e w' => e = .returned (.bool true) ∧ Below w.heap.size w w' :=
  evF_calls C2_ok (bits_run (i32_wf ha) (i32_wf hb) (by simpa [Lit.wf, IntKind.min, IntKind.max, IntKind.signed, IntKind.bits] using hn)) rfl rfl (noG_rel w)
end Go.Proofs.YtinicfjmpdofaaaDoor.SX
