/- The law ScalarFixed: that it answers true, and its call. No condition. -/
import Derived.Test.YtinicfjmpdofaaaDoorLawB
set_option linter.unusedVariables false
set_option linter.unusedSimpArgs false
namespace Go.Proofs.YtinicfjmpdofaaaDoor.SX
open Go Go.Ex Go.RowKit
set_option maxRecDepth 100000

theorem floor_bd (x : Int) {y : Int} (h : 0 < y) : Int.fdiv x y * y ≤ x ∧ x < Int.fdiv x y * y + y := by
  rw [Int.fdiv_eq_ediv_of_nonneg _ (by omega)]
  have h1 := Int.ediv_mul_le x (show y ≠ 0 by omega)
  have h2 := Int.lt_ediv_add_one_mul_self x h
  rw [Int.add_mul, Int.one_mul] at h2
  omega
theorem floor_lt {x y m : Int} (h : 0 < y) (g : x < y * m) : Int.fdiv x y < m := by
  rw [Int.fdiv_eq_ediv_of_nonneg _ (by omega)]
  exact Int.ediv_lt_of_lt_mul h (by rw [Int.mul_comm]; exact g)
theorem floor_ge {x y m : Int} (h : 0 < y) (g : y * m ≤ x) : m ≤ Int.fdiv x y := by
  rw [Int.fdiv_eq_ediv_of_nonneg _ (by omega)]
  exact Int.le_ediv_of_mul_le h (by rw [Int.mul_comm]; exact g)
theorem ex6_eq {a b : Int} (ha : I32 a) (hb : I32 b) : ex6 a b = a * b := by
  have := mul_bd ha hb
  unfold ex6 wr64
  rw [w64_32 ha, w64_32 hb, w64_id (by omega)]
theorem fq {a b : Int} (ha : I32 a) (hb : I32 b) : ∀ f1 f2 : Bool, f1 = decide (ex6 a b ≥ -140737488355328) → f2 = decide (ex6 a b < 140737488355328) → FQ a b f1 f2 = (FW f1 f2).map Prod.snd := by
  intro f1 f2 h1 h2
  cases f1 with
  | false => show [_, _] = [false, true]; rw [← h1, FL_t ha hb]
  | true =>
    cases f2 with
    | false => show [_, _, _] = [true, false, true]; rw [← h1, ← h2, FL_t ha hb]
    | true =>
      show [_, _, _, _, _] = [true, true, false, false, true]
      rw [← h1, ← h2, FL_t ha hb]
      have g1 := of_decide_eq_true h1.symm
      have g2 := of_decide_eq_true h2.symm
      rw [ex6_eq ha hb] at g1 g2
      have bd := floor_bd (a * b) (show (0 : Int) < 65536 by decide)
      have e15 : binV 15 a b = w32 (Int.fdiv (a * b) 65536) := rfl
      have hi : I32 (Int.fdiv (a * b) 65536) := by unfold I32; omega
      have e1 : pr6 a b = 65536 * Int.fdiv (a * b) 65536 := by
        unfold pr6 wr64
        rw [e15, w32_id hi, w64_32 hi, w64_id (by unfold I32 at hi; omega)]
      have e2 : wr64 (ex6 a b - 65536) = a * b - 65536 := by
        rw [ex6_eq ha hb]; unfold wr64; rw [w64_id (by omega)]
      rw [e1, e2, ex6_eq ha hb, decide_eq_false (by omega), decide_eq_false (by omega)]
theorem sz6_eq {b : Int} (hb : I32 b) {s : Bool} (h : s = decide (wr64 b < 0)) : sz6 s b = (if b < 0 then -b else b) := by
  unfold wr64 at h
  rw [w64_32 hb] at h
  unfold sz6 wr64
  rw [w64_32 hb]
  unfold I32 at hb
  by_cases c : b < 0
  · rw [decide_eq_true c] at h; subst h; rw [if_pos c, cond_true, w64_id (by omega)]; omega
  · rw [decide_eq_false c] at h; subst h; rw [if_neg c, cond_false]
theorem sc6_eq {a b : Int} (ha : I32 a) (hb : I32 b) {s : Bool} (h : s = decide (wr64 b < 0)) : sc6 s a = (if b < 0 then -(a * 65536) else a * 65536) := by
  unfold wr64 at h
  rw [w64_32 hb] at h
  unfold sc6 wr64
  rw [w64_32 ha]
  unfold I32 at ha
  rw [w64_id (n := 65536 * a) (by omega)]
  by_cases c : b < 0
  · rw [decide_eq_true c] at h; subst h; rw [if_pos c, cond_true, w64_id (by omega)]; omega
  · rw [decide_eq_false c] at h; subst h; rw [if_neg c, cond_false]; omega
theorem fx6_t {n : Int} (hn : -32768 ≤ n ∧ n ≤ 32767) : fx6 n = true := by
  have e : IntKind.i32.wrap n = n := w32_id (by unfold I32; omega)
  have e4 : unV 4 n = n * 65536 := by show w32 (n * 65536) = _; rw [w32_id (by unfold I32; omega)]
  have e5 : unV 5 (n * 65536) = n := by
    show Int.fdiv (n * 65536) 65536 = n
    have := floor_bd (n * 65536) (show (0 : Int) < 65536 by decide); omega
  unfold fx6
  rw [e, e4, e5]; simp
theorem sq {a b n : Int} (ha : I32 a) (hb : I32 b) (hn : -32768 ≤ n ∧ n ≤ 32767) : ∀ s z0 z1 z2 : Bool, s = decide (wr64 b < 0) → z0 = (sz6 s b != 0) → z1 = decide (sc6 s a < wr64 (sz6 s b * 2147483647)) → z2 = decide (sc6 s a > wr64 (wr64 (0 - sz6 s b) * 2147483647)) →
    SQ a b n s z0 z1 z2 = (SW s z0 z1 z2).map Prod.snd := by
  intro s z0 z1 z2 hs h0 h1 h2
  have hf := fx6_t hn
  cases z0 with
  | false => show [_, _] = [false, true]; rw [← h0, hf]
  | true =>
    cases z1 with
    | false => show [_, _, _] = [true, false, true]; rw [← h0, ← h1, hf]
    | true =>
      cases z2 with
      | false => show [_, _, _, _] = [true, true, false, true]; rw [← h0, ← h1, ← h2, hf]
      | true =>
        show [_, _, _, _, _, _] = [true, true, true, false, false, true]
        rw [← h0, ← h1, ← h2, hf]
        have g0 : sz6 s b ≠ 0 := by simpa using h0.symm
        have g1 := of_decide_eq_true h1.symm
        have g2 := of_decide_eq_true h2.symm
        have e16 : binV 16 a b = if b = 0 then 0 else w32 (Int.fdiv (a * 65536) b) := rfl
        have ez := sz6_eq hb hs
        have ec := sc6_eq ha hb hs
        have hA := ha
        have hB := hb
        unfold I32 at hA hB
        have hz : 0 < sz6 s b ∧ sz6 s b ≤ 2147483648 := by rw [ez] at g0 ⊢; split <;> (split at g0 <;> omega)
        have hc : -140737488355328 ≤ sc6 s a ∧ sc6 s a ≤ 140737488355328 := by rw [ec]; split <;> omega
        have hb0 : b ≠ 0 := by intro q; rw [ez, q] at g0; simp at g0
        have hd : Int.fdiv (a * 65536) b = Int.fdiv (sc6 s a) (sz6 s b) := by
          rw [ez, ec]
          split
          · rw [Int.neg_fdiv_neg]
          · rfl
        rw [e16, if_neg hb0, hd]
        generalize sc6 s a = x at *
        generalize sz6 s b = y at *
        unfold wr64 at *
        rw [w64_id (n := y * 2147483647) (by omega)] at g1
        rw [w64_id (n := 0 - y) (by omega), w64_id (n := (0 - y) * 2147483647) (by omega)] at g2
        have q1 := floor_lt hz.1 g1
        have q2 := floor_ge (m := -2147483647) hz.1 (show y * -2147483647 ≤ x by omega)
        have bd := floor_bd x hz.1
        have hi : I32 (Int.fdiv x y) := by unfold I32; omega
        rw [w32_id hi, w64_32 hi, w64_id (n := Int.fdiv x y * y) (by omega), w64_id (n := x - y) (by omega), decide_eq_false (by omega), decide_eq_false (by omega)]
theorem e6 {a n : Int} (ha : I32 a) (hn : -32768 ≤ n ∧ n ≤ 32767) : E6 a n = [true, true, true, true, true, true, true] := by
  have hA := ha
  unfold I32 at hA
  have e : IntKind.i32.wrap n = n := w32_id (by unfold I32; omega)
  have e4 : unV 4 n = n * 65536 := by show w32 (n * 65536) = _; rw [w32_id (by unfold I32; omega)]
  have h6 : I32 65536 := by unfold I32; omega
  have bd := floor_bd (a * 65536) (show (0 : Int) < 65536 by decide)
  have bd2 := floor_bd a (show (0 : Int) < 65536 by decide)
  have e15 : binV 15 a 65536 = a := by show w32 (Int.fdiv (a * 65536) 65536) = a; rw [w32_id (by unfold I32; omega)]; omega
  have e16 : binV 16 a 65536 = a := by show (if (65536 : Int) = 0 then 0 else w32 (Int.fdiv (a * 65536) 65536)) = a; rw [if_neg (by decide), w32_id (by unfold I32; omega)]; omega
  have e5 : unV 5 a = Int.fdiv a 65536 := rfl
  unfold E6
  unfold wr64
  rw [e, e4, FL_t ha h6, eqt e15, eqt e16, e5, w64_id (n := n * 65536) (by omega), w64_id (n := n) (by omega), w64_id (n := 65536 * n) (by omega), eqt (show n * 65536 = 65536 * n by omega),
    w64_id (n := Int.fdiv a 65536) (by omega), w64_id (n := 65536 * Int.fdiv a 65536) (by omega), w64_id (n := a) (by omega), w64_id (n := a - 65536) (by omega), decide_eq_true (by omega), decide_eq_true (by omega)]
theorem fixed_run {a b n : Int} (ha : I32 a) (hb : I32 b) (hn : -32768 ≤ n ∧ n ≤ 32767) : (L6 a b n).run = fT := by
  refine path_run ((w6 a b n (decide (ex6 a b ≥ -140737488355328)) (decide (ex6 a b < 140737488355328)) (decide (wr64 b < 0)) (sz6 (decide (wr64 b < 0)) b != 0)
    (decide (sc6 (decide (wr64 b < 0)) a < wr64 (sz6 (decide (wr64 b < 0)) b * 2147483647))) (decide (sc6 (decide (wr64 b < 0)) a > wr64 (wr64 (0 - sz6 (decide (wr64 b < 0)) b) * 2147483647)))).trans ?_)
  rw [fq ha hb _ _ rfl rfl, sq ha hb hn _ _ _ _ rfl rfl rfl rfl, e6 ha hn, FL_t ha hb]
  simp only [List.map_cons, List.map_append, List.map_nil]
theorem fixed_calls {a b n : Int} (ha : (Lit.int .i32 a).wf = true) (hb : (Lit.int .i32 b).wf = true) (hn : (Lit.int .i16 n).wf = true) (w : World) :
    Calls Tryd.prog 6 #[.int .i32 a, .int .i32 b, .int .i16 n] w fun e w' => e = .returned (.bool true) ∧ Below w.heap.size w w' :=
  evF_calls C2_ok (fixed_run (i32_wf ha) (i32_wf hb) (by simpa [Lit.wf, IntKind.min, IntKind.max, IntKind.signed, IntKind.bits] using hn)) rfl rfl (noG_rel w)
end Go.Proofs.YtinicfjmpdofaaaDoor.SX
