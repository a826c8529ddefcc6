/- The laws ScalarRing, ScalarDivides, ScalarOrder: what they compute, and that this answers true. No condition. -/
import Derived.Test.YtinicfjmpdofaaaDoorBin
set_option linter.unusedVariables false
set_option linter.unusedSimpArgs false
namespace Go.Proofs.YtinicfjmpdofaaaDoor.SX
open Go Go.Ex Go.RowKit
set_option maxRecDepth 100000

def fF : Option (V × Mem × Nat) := some (.bool false, [], 0)
def fT : Option (V × Mem × Nat) := some (.bool true, [], 0)
noncomputable def FL (x y : Int) : Bool := cdec (I32 x ∧ I32 y)
theorem FL_t {x y : Int} (h : I32 x) (k : I32 y) : FL x y = true := cdec_true ⟨h, k⟩
theorem two_pow_in {a : Int} (h : I32 a) (n : Nat) : I32 (Int.fdiv a (2 ^ n)) := by
  have hp : (0 : Int) < 2 ^ n := Int.pow_pos (by decide)
  have e : Int.fdiv a (2 ^ n) = a / 2 ^ n := by rw [Int.fdiv_eq_ediv_of_nonneg _ (by omega)]
  rw [e]
  unfold I32 at *
  have h1 : (1 : Int) ≤ 2 ^ n := hp
  constructor
  · have := Int.le_ediv_of_mul_le hp (show -2147483648 * 2 ^ n ≤ a from by
      have : -2147483648 * 2 ^ n ≤ -2147483648 * (1 : Int) := Int.mul_le_mul_of_nonpos_left (by decide) h1
      omega)
    exact this
  · by_cases c : 0 ≤ a
    · have := Int.ediv_le_self (2 ^ n) c; omega
    · have := Int.ediv_neg_of_neg_of_pos (show a < 0 by omega) hp; omega
theorem bi_in (b : Bool) : I32 (bi b) := by cases b <;> (unfold I32 bi; simp)
theorem tmod_in {a b : Int} (ha : I32 a) : I32 (Int.tmod a b) := by
  unfold I32 at *
  have := Int.natAbs_tmod a b
  have : a.natAbs % b.natAbs ≤ a.natAbs := Nat.mod_le _ _
  by_cases c : 0 ≤ a
  · have := Int.tmod_nonneg b c; omega
  · have h1 := Int.tmod_nonneg b (show 0 ≤ -a by omega)
    rw [Int.neg_tmod] at h1; omega
theorem if_in {c : Prop} [Decidable c] {x y : Int} (hx : I32 x) (hy : I32 y) : I32 (if c then x else y) := by split <;> assumption
theorem binV_in {a b : Int} (op : Int) (ha : I32 a) (hb : I32 b) : I32 (binV op a b) := by
  have z : I32 0 := by unfold I32; omega
  unfold binV
  exact if_in (w32_in _) (if_in (w32_in _) (if_in (w32_in _) (if_in (if_in z (w32_in _)) (if_in (if_in ha (tmod_in ha)) (if_in (w32_in _) (if_in (if_in z (w32_in _)) (if_in (w32_in _) (if_in (w32_in _) (if_in (w32_in _) (if_in (w32_in _) (if_in (two_pow_in ha _) (if_in (if_in hb ha) (if_in (if_in hb ha)
    (if_in (bi_in _) (if_in (bi_in _) (if_in (bi_in _) (if_in (bi_in _) (if_in (bi_in _) (if_in (bi_in _) z)))))))))))))))))))
theorem unV_in {a : Int} (op : Int) (ha : I32 a) : I32 (unV op a) := by
  unfold unV
  exact if_in (w32_in _) (if_in (w32_in _) (if_in (if_in ha (w32_in _)) (if_in (w32_in _) (if_in (two_pow_in ha 16) (by unfold I32; omega)))))
theorem w32_mod (n : Int) : ∃ k, w32 n = n + 4294967296 * k := by
  refine ⟨(w32 n - n) / 4294967296, ?_⟩
  unfold w32; rw [IntKind.wrap_i32]; omega
theorem w32_per (n k : Int) : w32 (n + 4294967296 * k) = w32 n := by unfold w32; rw [IntKind.wrap_i32, IntKind.wrap_i32]; omega
theorem w32_mul_l (x y : Int) : w32 (w32 x * y) = w32 (x * y) := by
  obtain ⟨k, hk⟩ := w32_mod x
  rw [hk, Int.add_mul, Int.mul_assoc, w32_per]
theorem w32_mul_r (x y : Int) : w32 (x * w32 y) = w32 (x * y) := by rw [Int.mul_comm, w32_mul_l, Int.mul_comm]
theorem w32_add_l (x y : Int) : w32 (w32 x + y) = w32 (x + y) := by
  obtain ⟨k, hk⟩ := w32_mod x
  rw [hk, show x + 4294967296 * k + y = x + y + 4294967296 * k by omega, w32_per]
theorem w32_add_r (x y : Int) : w32 (x + w32 y) = w32 (x + y) := by rw [Int.add_comm, w32_add_l, Int.add_comm]
theorem i0 : I32 0 := by unfold I32; omega
theorem i1 : I32 1 := by unfold I32; omega
theorem im1 : I32 (-1) := by unfold I32; omega
theorem nef {x y : Int} (h : x = y) : (x != y) = false := by simp [h]
theorem eqt {x y : Int} (h : x = y) : (x == y) = true := by simp [h]

/-! ### Ring -/
noncomputable def L4 (a b c : Int) : Tree (V × Mem × Nat) := evF C2 24 4 [.int .i32 a, .int .i32 b, .int .i32 c] [] 0
theorem l4 (a b c : Int) : (L4 a b c).run = bif FL (a) (b) then bif FL (a) (b) then bif FL (b) (a) then bif binV 10 a b != binV 10 b a then fF else bif FL (b) (a) then bif binV 12 a b != binV 12 b a then fF else bif FL (binV 10 a b) (b) then bif binV 11 (binV 10 a b) b != a then fF else bif FL 0 (a) then bif unV 1 a != binV 11 0 a then fF else bif FL (binV 10 a b) (c) then bif FL (b) (c) then bif FL (a) (binV 10 b c) then bif binV 10 (binV 10 a b) c != binV 10 a (binV 10 b c) then fF else bif FL (binV 12 a b) (c) then bif FL (b) (c) then bif FL (a) (binV 12 b c) then bif binV 12 (binV 12 a b) c != binV 12 a (binV 12 b c) then fF else bif FL (binV 10 a b) (c) then bif FL (a) (c) then bif FL (b) (c) then bif FL (binV 12 a c) (binV 12 b c) then bif binV 12 (binV 10 a b) c == binV 10 (binV 12 a c) (binV 12 b c) then bif FL (a) 1 then bif binV 12 a 1 == a then bif FL (a) 0 then bif binV 10 a 0 == a then fT else fF else none else fF else none else fF else none else none else none else none else none else none else none else none else none else none else none else none else none else none else none else none := by kernel_rfl
theorem ring_run {a b c : Int} (ha : I32 a) (hb : I32 b) (hc : I32 c) : (L4 a b c).run = fT := by
  rw [l4]
  have bin := fun op {x y : Int} (hx : I32 x) (hy : I32 y) => binV_in op hx hy
  have e1 : binV 10 a b = binV 10 b a := by show w32 _ = w32 _; rw [Int.add_comm]
  have e2 : binV 12 a b = binV 12 b a := by show w32 _ = w32 _; rw [Int.mul_comm]
  have e3 : binV 11 (binV 10 a b) b = a := by
    show w32 (w32 (a + b) - b) = a
    rw [Int.sub_eq_add_neg, w32_add_l, show a + b + -b = a by omega, w32_id ha]
  have e4 : unV 1 a = binV 11 0 a := rfl
  have e5 : binV 10 (binV 10 a b) c = binV 10 a (binV 10 b c) := by
    show w32 (w32 (a + b) + c) = w32 (a + w32 (b + c))
    rw [w32_add_l, w32_add_r, Int.add_assoc]
  have e6 : binV 12 (binV 12 a b) c = binV 12 a (binV 12 b c) := by
    show w32 (w32 (a * b) * c) = w32 (a * w32 (b * c))
    rw [w32_mul_l, w32_mul_r, Int.mul_assoc]
  have e7 : binV 12 (binV 10 a b) c = binV 10 (binV 12 a c) (binV 12 b c) := by
    show w32 (w32 (a + b) * c) = w32 (w32 (a * c) + w32 (b * c))
    rw [w32_mul_l, w32_add_l, w32_add_r, Int.add_mul]
  have e8 : binV 12 a 1 = a := by show w32 (a * 1) = a; rw [Int.mul_one, w32_id ha]
  have e9 : binV 10 a 0 = a := by show w32 (a + 0) = a; rw [Int.add_zero, w32_id ha]
  rw [FL_t ha hb, FL_t hb ha, FL_t (bin 10 ha hb) hb, FL_t i0 ha, FL_t (bin 10 ha hb) hc, FL_t hb hc, FL_t ha (bin 10 hb hc), FL_t (bin 12 ha hb) hc, FL_t ha (bin 12 hb hc), FL_t ha hc, FL_t (bin 12 ha hc) (bin 12 hb hc), FL_t ha i1, FL_t ha i0,
    nef e1, nef e2, nef e3, nef e4, nef e5, nef e6, eqt e7, eqt e8, eqt e9]
  rfl

/-! ### Divides -/
noncomputable def L5 (a b : Int) : Tree (V × Mem × Nat) := evF C2 24 5 [.int .i32 a, .int .i32 b] [] 0
theorem l5 (a b : Int) : (L5 a b).run = bif FL (a) (b) then bif FL (a) (b) then bif b == 0 then bif binV 13 a b == 0 then bif binV 14 a b == a then fT else fF else fF else bif FL (binV 13 a b) (b) then bif FL (binV 12 (binV 13 a b) b) (binV 14 a b) then bif binV 10 (binV 12 (binV 13 a b) b) (binV 14 a b) != a then fF else bif decide (IntKind.i64.wrap b < 0) then bif decide (a < 0) then bif decide (IntKind.i64.wrap (0 - IntKind.i64.wrap (binV 14 a b)) ≥ 0) then bif decide (IntKind.i64.wrap (0 - IntKind.i64.wrap (binV 14 a b)) < IntKind.i64.wrap (0 - IntKind.i64.wrap b)) then bif FL (a) 1 then bif binV 13 a 1 == a then bif FL (a) (-1) then bif binV 13 a (-1) == unV 1 a then fT else fF else none else fF else none else fF else fF else bif decide (IntKind.i64.wrap (binV 14 a b) ≥ 0) then bif decide (IntKind.i64.wrap (binV 14 a b) < IntKind.i64.wrap (0 - IntKind.i64.wrap b)) then bif FL (a) 1 then bif binV 13 a 1 == a then bif FL (a) (-1) then bif binV 13 a (-1) == unV 1 a then fT else fF else none else fF else none else fF else fF else bif decide (a < 0) then bif decide (IntKind.i64.wrap (0 - IntKind.i64.wrap (binV 14 a b)) ≥ 0) then bif decide (IntKind.i64.wrap (0 - IntKind.i64.wrap (binV 14 a b)) < IntKind.i64.wrap b) then bif FL (a) 1 then bif binV 13 a 1 == a then bif FL (a) (-1) then bif binV 13 a (-1) == unV 1 a then fT else fF else none else fF else none else fF else fF else bif decide (IntKind.i64.wrap (binV 14 a b) ≥ 0) then bif decide (IntKind.i64.wrap (binV 14 a b) < IntKind.i64.wrap b) then bif FL (a) 1 then bif binV 13 a 1 == a then bif FL (a) (-1) then bif binV 13 a (-1) == unV 1 a then fT else fF else none else fF else none else fF else fF else none else none else none else none := by kernel_rfl
theorem divides_run {a b : Int} (ha : I32 a) (hb : I32 b) : (L5 a b).run = fT := by
  rw [l5]
  have bin := fun op {x y : Int} (hx : I32 x) (hy : I32 y) => binV_in op hx hy
  have e1 : binV 13 a 1 = a := by show (if (1 : Int) = 0 then 0 else w32 (Int.tdiv a 1)) = a; rw [if_neg (by decide), Int.tdiv_one, w32_id ha]
  have e2 : binV 13 a (-1) = unV 1 a := by show (if (-1 : Int) = 0 then 0 else w32 (Int.tdiv a (-1))) = w32 (0 - a); rw [if_neg (by decide), Int.tdiv_neg, Int.tdiv_one]; congr 1; omega
  rw [FL_t ha hb, FL_t (bin 13 ha hb) hb, FL_t (bin 12 (bin 13 ha hb) hb) (bin 14 ha hb), FL_t ha i1, FL_t ha im1, eqt e1, eqt e2]
  by_cases c : b = 0
  · subst c
    have e3 : binV 13 a 0 = 0 := rfl
    have e4 : binV 14 a 0 = a := rfl
    rw [eqt e3, eqt e4]; rfl
  · have cb : (b == 0) = false := by rw [beq_eq_false_iff_ne]; exact c
    have r : binV 14 a b = Int.tmod a b := by show (if b = 0 then a else Int.tmod a b) = _; rw [if_neg c]
    have e5 : binV 10 (binV 12 (binV 13 a b) b) (binV 14 a b) = a := by
      rw [r]
      show w32 (w32 ((if b = 0 then 0 else w32 (Int.tdiv a b)) * b) + Int.tmod a b) = a
      rw [if_neg c, w32_mul_l, w32_add_l]
      have := Int.tmod_add_mul_tdiv a b
      rw [show Int.tdiv a b * b + Int.tmod a b = a by rw [Int.mul_comm]; omega, w32_id ha]
    have hr := tmod_in (b := b) ha
    have hlt : (Int.tmod a b).natAbs < b.natAbs := by rw [Int.natAbs_tmod]; exact Nat.mod_lt _ (by omega)
    have hs1 : 0 ≤ a → 0 ≤ Int.tmod a b := Int.tmod_nonneg b
    have hs2 : a < 0 → Int.tmod a b ≤ 0 := fun q => by
      have h1 := Int.tmod_nonneg b (show 0 ≤ -a by omega)
      rw [Int.neg_tmod] at h1; omega
    rw [cb, nef e5, r, w64_32 hb, w64_32 hr]
    unfold I32 at hr hb
    generalize Int.tmod a b = q at *
    rw [w64_id (n := 0 - q) (by omega), w64_id (n := 0 - b) (by omega)]
    by_cases c1 : b < 0 <;> by_cases c2 : a < 0
    · have h1 := hs2 c2
      have g1 : decide (0 - q ≥ 0) = true := decide_eq_true (by omega)
      have g2 : decide (0 - q < 0 - b) = true := decide_eq_true (by omega)
      rw [decide_eq_true c1, decide_eq_true c2, g1, g2]; rfl
    · have h1 := hs1 (by omega)
      have g1 : decide (q ≥ 0) = true := decide_eq_true (by omega)
      have g2 : decide (q < 0 - b) = true := decide_eq_true (by omega)
      rw [decide_eq_true c1, decide_eq_false c2, g1, g2]; rfl
    · have h1 := hs2 c2
      have g1 : decide (0 - q ≥ 0) = true := decide_eq_true (by omega)
      have g2 : decide (0 - q < b) = true := decide_eq_true (by omega)
      rw [decide_eq_false c1, decide_eq_true c2, g1, g2]; rfl
    · have h1 := hs1 (by omega)
      have g1 : decide (q ≥ 0) = true := decide_eq_true (by omega)
      have g2 : decide (q < b) = true := decide_eq_true (by omega)
      rw [decide_eq_false c1, decide_eq_false c2, g1, g2]; rfl

/-! ### Order -/
noncomputable def L8 (a b : Int) : Tree (V × Mem × Nat) := evF C2 24 8 [.int .i32 a, .int .i32 b] [] 0
theorem l8 (a b : Int) : (L8 a b).run = bif FL (a) (b) then bif FL (a) (b) then bif FL (a) (b) then bif IntKind.i32.wrap (IntKind.i32.wrap (binV 26 a b + binV 24 a b) + binV 28 a b) != 1 then fF else bif decide (binV 26 a b < 0) then fF else bif decide (binV 24 a b < 0) then fF else bif decide (binV 28 a b < 0) then fF else bif !(binV 26 a b == 1) == decide (a < b) then fF else bif !(binV 24 a b == 1) == (a == b) then fF else bif FL (a) (b) then bif binV 27 a b != IntKind.i32.wrap (1 - binV 28 a b) then fF else bif FL (a) (b) then bif binV 29 a b != IntKind.i32.wrap (1 - binV 26 a b) then fF else bif FL (a) (b) then bif binV 25 a b != IntKind.i32.wrap (1 - binV 24 a b) then fF else bif FL (a) (b) then bif FL (a) (b) then bif decide (binV 22 a b > binV 23 a b) then fF else bif binV 22 a b != a then bif binV 22 a b != b then fF else bif FL (binV 22 a b) (binV 23 a b) then bif FL (a) (b) then bif binV 19 (binV 22 a b) (binV 23 a b) != binV 19 a b then fF else bif a == -2147483648 then fT else bif FL (a) (unV 1 a) then bif unV 3 a == binV 23 a (unV 1 a) then fT else fF else none else none else none else bif FL (binV 22 a b) (binV 23 a b) then bif FL (a) (b) then bif binV 19 (binV 22 a b) (binV 23 a b) != binV 19 a b then fF else bif a == -2147483648 then fT else bif FL (a) (unV 1 a) then bif unV 3 a == binV 23 a (unV 1 a) then fT else fF else none else none else none else none else none else none else none else none else none else none else none := by kernel_rfl
theorem xor_comm (a b : Int) : xor32 a b = xor32 b a := by unfold xor32; rw [BitVec.xor_comm]
theorem order_run {a b : Int} (ha : I32 a) (hb : I32 b) : (L8 a b).run = fT := by
  rw [l8]
  have bin := fun op {x y : Int} (hx : I32 x) (hy : I32 y) => binV_in op hx hy
  have lt : binV 26 a b = bi (decide (a < b)) := rfl
  have eq : binV 24 a b = bi (a == b) := rfl
  have gt : binV 28 a b = bi (decide (a > b)) := rfl
  have le : binV 27 a b = bi (decide (a ≤ b)) := rfl
  have ge : binV 29 a b = bi (decide (a ≥ b)) := rfl
  have ne : binV 25 a b = bi (a != b) := rfl
  have mn : binV 22 a b = if b < a then b else a := rfl
  have mx : binV 23 a b = if b > a then b else a := rfl
  have hx : binV 19 (binV 22 a b) (binV 23 a b) = binV 19 a b := by
    rw [mn, mx]
    show xor32 _ _ = xor32 a b
    by_cases c1 : b < a
    · rw [if_pos c1, if_neg (by omega)]; exact xor_comm b a
    · rw [if_neg c1]
      by_cases c2 : b > a
      · rw [if_pos c2]
      · rw [if_neg c2]; have : a = b := by omega
        rw [this]
  have hm : decide (binV 22 a b > binV 23 a b) = false := decide_eq_false (by rw [mn, mx]; split <;> split <;> omega)
  have hu : a ≠ -2147483648 → unV 3 a = binV 23 a (unV 1 a) := fun q => by
    unfold I32 at ha
    have e : unV 1 a = -a := by show w32 (0 - a) = -a; rw [show 0 - a = -a by omega, w32_id (by unfold I32; omega)]
    rw [e]
    show (if a ≥ 0 then a else w32 (0 - a)) = (if -a > a then -a else a)
    rw [show 0 - a = -a by omega, w32_id (n := -a) (by unfold I32; omega)]
    split <;> split <;> omega
  rw [FL_t ha hb, FL_t (bin 22 ha hb) (bin 23 ha hb), FL_t ha (unV_in 1 ha), nef hx, hm]
  have hfin : (bif a == -2147483648 then fT else bif true then bif unV 3 a == binV 23 a (unV 1 a) then fT else fF else none) = fT := by
    by_cases c : a = -2147483648
    · rw [eqt c]; rfl
    · have : (a == -2147483648) = false := by rw [beq_eq_false_iff_ne]; exact c
      rw [this, eqt (hu c)]; rfl
  rw [hfin]
  have hmn : (binV 22 a b != a) = true → (binV 22 a b != b) = false := by
    rw [mn]
    intro q
    by_cases c1 : b < a
    · rw [if_pos c1]; simp
    · rw [if_neg c1] at q; simp at q
  have hend : (bif binV 22 a b != a then bif binV 22 a b != b then fF else bif true then bif true then bif false then fF else fT else none else none else bif true then bif true then bif false then fF else fT else none else none) = fT := by
    cases q : (binV 22 a b != a) with
    | true => rw [hmn q]; rfl
    | false => rfl
  rw [hend, lt, eq, gt, le, ge, ne]
  by_cases c1 : a < b
  · have h1 : ¬ a > b := by omega
    have h2 : a ≤ b := by omega
    have h3 : ¬ a ≥ b := by omega
    have h4 : (a == b) = false := by rw [beq_eq_false_iff_ne]; omega
    have h5 : (a != b) = true := by rw [bne_iff_ne]; omega
    rw [decide_eq_true c1, decide_eq_false h1, decide_eq_true h2, decide_eq_false h3, h4, h5]; rfl
  · by_cases c2 : a > b
    · have h2 : ¬ a ≤ b := by omega
      have h3 : a ≥ b := by omega
      have h4 : (a == b) = false := by rw [beq_eq_false_iff_ne]; omega
      have h5 : (a != b) = true := by rw [bne_iff_ne]; omega
      rw [decide_eq_false c1, decide_eq_true c2, decide_eq_false h2, decide_eq_true h3, h4, h5]; rfl
    · have h2 : a ≤ b := by omega
      have h3 : a ≥ b := by omega
      have h0 : a = b := by omega
      have h4 : (a == b) = true := eqt h0
      have h5 : (a != b) = false := nef h0
      rw [decide_eq_false c1, decide_eq_false c2, decide_eq_true h2, decide_eq_true h3, h4, h5]; rfl

/-! ### The calls -/
theorem i32_wf {x : Int} (h : (Lit.int .i32 x).wf = true) : I32 x := by
  unfold I32
  simpa [Lit.wf, IntKind.min, IntKind.max, IntKind.signed, IntKind.bits] using h
theorem noG_rel (w : World) : GRel noG w := fun _ _ _ h => by cases h
theorem ring_calls {a b c : Int} (ha : (Lit.int .i32 a).wf = true) (hb : (Lit.int .i32 b).wf = true) (hc : (Lit.int .i32 c).wf = true) (w : World) :
    Calls Tryd.prog 4 #[.int .i32 a, .int .i32 b, .int .i32 c] w fun e w' => e = .returned (.bool true) ∧ Below w.heap.size w w' :=
  evF_calls C2_ok (ring_run (i32_wf ha) (i32_wf hb) (i32_wf hc)) rfl rfl (noG_rel w)
theorem divides_calls {a b : Int} (ha : (Lit.int .i32 a).wf = true) (hb : (Lit.int .i32 b).wf = true) (w : World) :
    Calls Tryd.prog 5 #[.int .i32 a, .int .i32 b] w fun e w' => e = .returned (.bool true) ∧ Below w.heap.size w w' :=
  evF_calls C2_ok (divides_run (i32_wf ha) (i32_wf hb)) rfl rfl (noG_rel w)
theorem order_calls {a b : Int} (ha : (Lit.int .i32 a).wf = true) (hb : (Lit.int .i32 b).wf = true) (w : World) :
    Calls Tryd.prog 8 #[.int .i32 a, .int .i32 b] w fun e w' => e = .returned (.bool true) ∧ Below w.heap.size w w' :=
  evF_calls C2_ok (order_run (i32_wf ha) (i32_wf hb)) rfl rfl (noG_rel w)
end Go.Proofs.YtinicfjmpdofaaaDoor.SX
