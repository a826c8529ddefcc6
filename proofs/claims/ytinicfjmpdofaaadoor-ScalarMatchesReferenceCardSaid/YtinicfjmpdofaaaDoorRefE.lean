/- The reference's operators for two values: that they are the program's. No condition. -/
import Derived.Test.YtinicfjmpdofaaaDoorRefD
set_option linter.unusedVariables false
set_option linter.unusedSimpArgs false
namespace Go.Proofs.YtinicfjmpdofaaaDoor.SX
open Go Go.Ex Go.RowKit
set_option maxRecDepth 100000

theorem y0a (op a b : Int) : path (T15 op a b) [(4, true)] = some ([decide (op < 10)], (r2 0 1, [], 0)) := by kernel_rfl
theorem y0b (op a b : Int) : path (T15 op a b) [(4, false), (6, true)] = some ([decide (op < 10), decide (op > 29)], (r2 0 1, [], 0)) := by kernel_rfl
theorem mod32 {b : Int} (hb : I32 b) : sh b = b % 32 := by
  unfold sh wr64
  rw [w64_32 hb]
  have e : Int.tmod b 32 = if 0 ≤ b then b % 32 else -((-b) % 32) := by
    by_cases c : 0 ≤ b
    · rw [if_pos c, Int.tmod_eq_emod_of_nonneg c]
    · rw [if_neg c, ← Int.tmod_eq_emod_of_nonneg (show 0 ≤ -b by omega), Int.neg_tmod, Int.neg_neg]
  rw [e]
  have hi : 0 ≤ (if 0 ≤ b then b % 32 else -((-b) % 32)) + 32 ∧ (if 0 ≤ b then b % 32 else -((-b) % 32)) + 32 ≤ 64 := by split <;> omega
  rw [w64_id (by omega), Int.tmod_eq_emod_of_nonneg hi.1]
  split <;> omega
theorem FLr_eq {x y : Int} (hy : 0 < y) (hx : -9223372036854775807 ≤ x ∧ x ≤ 9223372036854775807) : FLr x y = rv (w32 (Int.fdiv x y)) 0 := by
  unfold FLr
  have c0 : (y == 0) = false := by rw [beq_eq_false_iff_ne]; omega
  rw [c0, cv_eq, cv_eq, cond_false, cond_false]
  have bd := Int.natAbs_tdiv_le_natAbs x y
  have e := floor_t (x := x) hy
  unfold wr64
  rw [w64_id (n := Int.tdiv x y) (by omega), w64_id (n := Int.tdiv x y - 1) (by omega), e]
  by_cases c : Int.tmod x y < 0
  · rw [decide_eq_true c, if_pos c]; rfl
  · rw [decide_eq_false c, if_neg c]; rfl
theorem shl_bd {a : Int} (ha : I32 a) {s : Nat} (hs : s ≤ 31) : -4611686018427387904 ≤ a * 2 ^ s ∧ a * 2 ^ s ≤ 4611686018427387904 := by
  unfold I32 at ha
  have e := Int.natAbs_mul a (2 ^ s)
  have h2 : (2 : Nat) ^ s ≤ 2 ^ 31 := Nat.pow_le_pow_right (by decide) hs
  have h3 : ((2 : Int) ^ s).natAbs = 2 ^ s := by rw [Int.natAbs_pow]; rfl
  rw [h3] at e
  have : a.natAbs * 2 ^ s ≤ 2147483648 * 2147483648 := Nat.mul_le_mul (by omega) (by omega)
  omega
theorem c15_10 {a b : Int} (ha : I32 a) (hb : I32 b) : (T15 10 a b).run = some (r2 (binV 10 a b) (binE 10), [], 0) := by
  have ha' := ha
  have hb' := hb
  unfold I32 at ha' hb'
  have wa : wr64 a = a := w64_32 ha
  have wb : wr64 b = b := w64_32 hb
  have hmb := mul_bd ha hb
  rw [y10, wa, wb, cv_eq]; unfold wr64; rw [w64_id (by omega)]; rfl
theorem c15_11 {a b : Int} (ha : I32 a) (hb : I32 b) : (T15 11 a b).run = some (r2 (binV 11 a b) (binE 11), [], 0) := by
  have ha' := ha
  have hb' := hb
  unfold I32 at ha' hb'
  have wa : wr64 a = a := w64_32 ha
  have wb : wr64 b = b := w64_32 hb
  have hmb := mul_bd ha hb
  rw [y11, wa, wb, cv_eq]; unfold wr64; rw [w64_id (by omega)]; rfl
theorem c15_12 {a b : Int} (ha : I32 a) (hb : I32 b) : (T15 12 a b).run = some (r2 (binV 12 a b) (binE 12), [], 0) := by
  have ha' := ha
  have hb' := hb
  unfold I32 at ha' hb'
  have wa : wr64 a = a := w64_32 ha
  have wb : wr64 b = b := w64_32 hb
  have hmb := mul_bd ha hb
  rw [y12, wa, wb, cv_eq]; unfold wr64; rw [w64_id (by omega)]; rfl
theorem c15_13 {a b : Int} (ha : I32 a) (hb : I32 b) : (T15 13 a b).run = some (r2 (binV 13 a b) (binE 13), [], 0) := by
  have ha' := ha
  have hb' := hb
  unfold I32 at ha' hb'
  have wa : wr64 a = a := w64_32 ha
  have wb : wr64 b = b := w64_32 hb
  have hmb := mul_bd ha hb
  rw [y13, wa, wb, cv_eq, cv_eq]
  have bd := tdiv_bd (a := a) (b := b) (by omega)
  have e : binV 13 a b = if b = 0 then 0 else w32 (Int.tdiv a b) := rfl
  unfold wr64; rw [w64_id (n := Int.tdiv a b) (by omega), e]
  by_cases c : b = 0
  · rw [if_pos c, eqt c]; rfl
  · rw [if_neg c, show (b == 0) = false by rw [beq_eq_false_iff_ne]; exact c]; rfl
theorem c15_14 {a b : Int} (ha : I32 a) (hb : I32 b) : (T15 14 a b).run = some (r2 (binV 14 a b) (binE 14), [], 0) := by
  have ha' := ha
  have hb' := hb
  unfold I32 at ha' hb'
  have wa : wr64 a = a := w64_32 ha
  have wb : wr64 b = b := w64_32 hb
  have hmb := mul_bd ha hb
  rw [y14, wa, wb, cv_eq, cv_eq]
  have bd := tdiv_bd (a := a) (b := b) (by omega)
  have e : binV 14 a b = if b = 0 then a else Int.tmod a b := rfl
  have hr := tmod_in (b := b) ha
  have hm := Int.tmod_add_mul_tdiv a b
  unfold I32 at hr
  unfold wr64
  rw [w64_id (n := Int.tdiv a b) (by omega), e, w64_id (n := b * Int.tdiv a b) (by omega), w64_id (n := a - b * Int.tdiv a b) (by omega)]
  by_cases c : b = 0
  · rw [if_pos c, eqt c, w64_id (n := b * 0) (by omega), Int.mul_zero, w64_id (n := a - 0) (by omega), Int.sub_zero, w32_id ha]; rfl
  · rw [if_neg c, show (b == 0) = false by rw [beq_eq_false_iff_ne]; exact c, show a - b * Int.tdiv a b = Int.tmod a b by omega, w32_id (n := Int.tmod a b) (by unfold I32; omega)]; rfl
theorem c15_15 {a b : Int} (ha : I32 a) (hb : I32 b) : (T15 15 a b).run = some (r2 (binV 15 a b) (binE 15), [], 0) := by
  have ha' := ha
  have hb' := hb
  unfold I32 at ha' hb'
  have wa : wr64 a = a := w64_32 ha
  have wb : wr64 b = b := w64_32 hb
  have hmb := mul_bd ha hb
  rw [y15, wa, wb]; unfold wr64; rw [w64_id (by omega), FLr_eq (by decide) (by omega)]; rfl
theorem c15_16 {a b : Int} (ha : I32 a) (hb : I32 b) : (T15 16 a b).run = some (r2 (binV 16 a b) (binE 16), [], 0) := by
  have ha' := ha
  have hb' := hb
  unfold I32 at ha' hb'
  have wa : wr64 a = a := w64_32 ha
  have wb : wr64 b = b := w64_32 hb
  have hmb := mul_bd ha hb
  rw [y16, wa, wb, cv_eq]
  have e : binV 16 a b = if b = 0 then 0 else w32 (Int.fdiv (a * 65536) b) := rfl
  unfold wr64
  rw [w64_id (n := 65536 * a) (by omega), w64_id (n := 0 - 65536 * a) (by omega), w64_id (n := 0 - b) (by omega), e]
  by_cases c : b = 0
  · rw [if_pos c, eqt c]; rfl
  · rw [if_neg c, show (b == 0) = false by rw [beq_eq_false_iff_ne]; exact c]
    by_cases c2 : b < 0
    · rw [decide_eq_true c2, FLr_eq (by omega) (by omega), show 0 - 65536 * a = -(a * 65536) by omega, show 0 - b = -b by omega, Int.neg_fdiv_neg]; rfl
    · rw [decide_eq_false c2, FLr_eq (x := 65536 * a) (by omega) (by omega), show 65536 * a = a * 65536 by omega]; rfl
theorem c15_17 {a b : Int} (ha : I32 a) (hb : I32 b) : (T15 17 a b).run = some (r2 (binV 17 a b) (binE 17), [], 0) := by
  have ha' := ha
  have hb' := hb
  unfold I32 at ha' hb'
  have wa : wr64 a = a := w64_32 ha
  have wb : wr64 b = b := w64_32 hb
  have hmb := mul_bd ha hb
  have e1 : bit3 17 a b = and32 a b := by unfold bit3; rw [if_pos rfl]
  have e2 : binV 17 a b = and32 a b := by simp [binV]
  have e3 : binE 17 = 0 := by decide
  have e4 : G31 17 a b = true := cdec_true ⟨ha, hb, by omega⟩
  rw [y17, e1, e2, e3, e4, cond_true]
theorem c15_18 {a b : Int} (ha : I32 a) (hb : I32 b) : (T15 18 a b).run = some (r2 (binV 18 a b) (binE 18), [], 0) := by
  have ha' := ha
  have hb' := hb
  unfold I32 at ha' hb'
  have wa : wr64 a = a := w64_32 ha
  have wb : wr64 b = b := w64_32 hb
  have hmb := mul_bd ha hb
  have e1 : bit3 18 a b = or32 a b := by unfold bit3; rw [if_neg (by decide), if_pos rfl]
  have e2 : binV 18 a b = or32 a b := by simp [binV]
  have e3 : binE 18 = 0 := by decide
  have e4 : G31 18 a b = true := cdec_true ⟨ha, hb, by omega⟩
  rw [y18, e1, e2, e3, e4, cond_true]
theorem c15_19 {a b : Int} (ha : I32 a) (hb : I32 b) : (T15 19 a b).run = some (r2 (binV 19 a b) (binE 19), [], 0) := by
  have ha' := ha
  have hb' := hb
  unfold I32 at ha' hb'
  have wa : wr64 a = a := w64_32 ha
  have wb : wr64 b = b := w64_32 hb
  have hmb := mul_bd ha hb
  have e1 : bit3 19 a b = xor32 a b := by unfold bit3; rw [if_neg (by decide), if_neg (by decide)]
  have e2 : binV 19 a b = xor32 a b := by simp [binV]
  have e3 : binE 19 = 0 := by decide
  have e4 : G31 19 a b = true := cdec_true ⟨ha, hb, by omega⟩
  rw [y19, e1, e2, e3, e4, cond_true]
theorem c15_20 {a b : Int} (ha : I32 a) (hb : I32 b) : (T15 20 a b).run = some (r2 (binV 20 a b) (binE 20), [], 0) := by
  have ha' := ha
  have hb' := hb
  unfold I32 at ha' hb'
  have wa : wr64 a = a := w64_32 ha
  have wb : wr64 b = b := w64_32 hb
  have hmb := mul_bd ha hb
  have h0 : 0 ≤ b % 32 ∧ b % 32 ≤ 31 := by omega
  have hg : G45 (b % 32) = true := by unfold G45; rw [decide_eq_true h0.1, decide_eq_true (by omega)]; rfl
  have hs := shl_bd ha (s := (b % 32).toNat) (by omega)
  rw [y20, mod32 hb, hg, wa, cv_eq]; unfold wr64; rw [w64_id (by omega)]; rfl
theorem c15_21 {a b : Int} (ha : I32 a) (hb : I32 b) : (T15 21 a b).run = some (r2 (binV 21 a b) (binE 21), [], 0) := by
  have ha' := ha
  have hb' := hb
  unfold I32 at ha' hb'
  have wa : wr64 a = a := w64_32 ha
  have wb : wr64 b = b := w64_32 hb
  have hmb := mul_bd ha hb
  have h0 : 0 ≤ b % 32 ∧ b % 32 ≤ 31 := by omega
  have hg : G45 (b % 32) = true := by unfold G45; rw [decide_eq_true h0.1, decide_eq_true (by omega)]; rfl
  have hp : (0 : Int) < 2 ^ (b % 32).toNat := Int.pow_pos (by decide)
  rw [y21, mod32 hb, hg, wa, FLr_eq hp (by omega), w32_id (two_pow_in ha _)]; rfl
theorem c15_22 {a b : Int} (ha : I32 a) (hb : I32 b) : (T15 22 a b).run = some (r2 (binV 22 a b) (binE 22), [], 0) := by
  have ha' := ha
  have hb' := hb
  unfold I32 at ha' hb'
  have wa : wr64 a = a := w64_32 ha
  have wb : wr64 b = b := w64_32 hb
  have hmb := mul_bd ha hb
  rw [y22, wa, wb, cv_eq]
  have e : binV 22 a b = if b < a then b else a := rfl
  rw [e, w32_id (if_in hb ha)]; rfl
theorem c15_23 {a b : Int} (ha : I32 a) (hb : I32 b) : (T15 23 a b).run = some (r2 (binV 23 a b) (binE 23), [], 0) := by
  have ha' := ha
  have hb' := hb
  unfold I32 at ha' hb'
  have wa : wr64 a = a := w64_32 ha
  have wb : wr64 b = b := w64_32 hb
  have hmb := mul_bd ha hb
  rw [y23, wa, wb, cv_eq]
  have e : binV 23 a b = if b > a then b else a := rfl
  rw [e, w32_id (if_in hb ha)]; rfl
theorem c15_24 {a b : Int} (ha : I32 a) (hb : I32 b) : (T15 24 a b).run = some (r2 (binV 24 a b) (binE 24), [], 0) := by
  have ha' := ha
  have hb' := hb
  unfold I32 at ha' hb'
  have wa : wr64 a = a := w64_32 ha
  have wb : wr64 b = b := w64_32 hb
  have hmb := mul_bd ha hb
  rw [y24, wa, wb]; rfl
theorem c15_25 {a b : Int} (ha : I32 a) (hb : I32 b) : (T15 25 a b).run = some (r2 (binV 25 a b) (binE 25), [], 0) := by
  have ha' := ha
  have hb' := hb
  unfold I32 at ha' hb'
  have wa : wr64 a = a := w64_32 ha
  have wb : wr64 b = b := w64_32 hb
  have hmb := mul_bd ha hb
  rw [y25, wa, wb]; rfl
theorem c15_26 {a b : Int} (ha : I32 a) (hb : I32 b) : (T15 26 a b).run = some (r2 (binV 26 a b) (binE 26), [], 0) := by
  have ha' := ha
  have hb' := hb
  unfold I32 at ha' hb'
  have wa : wr64 a = a := w64_32 ha
  have wb : wr64 b = b := w64_32 hb
  have hmb := mul_bd ha hb
  rw [y26, wa, wb]; rfl
theorem c15_27 {a b : Int} (ha : I32 a) (hb : I32 b) : (T15 27 a b).run = some (r2 (binV 27 a b) (binE 27), [], 0) := by
  have ha' := ha
  have hb' := hb
  unfold I32 at ha' hb'
  have wa : wr64 a = a := w64_32 ha
  have wb : wr64 b = b := w64_32 hb
  have hmb := mul_bd ha hb
  rw [y27, wa, wb]; rfl
theorem c15_28 {a b : Int} (ha : I32 a) (hb : I32 b) : (T15 28 a b).run = some (r2 (binV 28 a b) (binE 28), [], 0) := by
  have ha' := ha
  have hb' := hb
  unfold I32 at ha' hb'
  have wa : wr64 a = a := w64_32 ha
  have wb : wr64 b = b := w64_32 hb
  have hmb := mul_bd ha hb
  rw [y28, wa, wb]; rfl
theorem c15_29 {a b : Int} (ha : I32 a) (hb : I32 b) : (T15 29 a b).run = some (r2 (binV 29 a b) (binE 29), [], 0) := by
  have ha' := ha
  have hb' := hb
  unfold I32 at ha' hb'
  have wa : wr64 a = a := w64_32 ha
  have wb : wr64 b = b := w64_32 hb
  have hmb := mul_bd ha hb
  rw [y29, wa, wb]; rfl
theorem T15_run {op a b : Int} (ha : I32 a) (hb : I32 b) : (T15 op a b).run = some (r2 (binV op a b) (binE op), [], 0) := by
  have hop : op = 10 ∨ op = 11 ∨ op = 12 ∨ op = 13 ∨ op = 14 ∨ op = 15 ∨ op = 16 ∨ op = 17 ∨ op = 18 ∨ op = 19 ∨ op = 20 ∨ op = 21 ∨ op = 22 ∨ op = 23 ∨ op = 24 ∨ op = 25 ∨ op = 26 ∨ op = 27 ∨ op = 28 ∨ op = 29 ∨ op < 10 ∨ op > 29 := by omega
  rcases hop with rfl | rfl | rfl | rfl | rfl | rfl | rfl | rfl | rfl | rfl | rfl | rfl | rfl | rfl | rfl | rfl | rfl | rfl | rfl | rfl | hop | hop
  · exact c15_10 ha hb
  · exact c15_11 ha hb
  · exact c15_12 ha hb
  · exact c15_13 ha hb
  · exact c15_14 ha hb
  · exact c15_15 ha hb
  · exact c15_16 ha hb
  · exact c15_17 ha hb
  · exact c15_18 ha hb
  · exact c15_19 ha hb
  · exact c15_20 ha hb
  · exact c15_21 ha hb
  · exact c15_22 ha hb
  · exact c15_23 ha hb
  · exact c15_24 ha hb
  · exact c15_25 ha hb
  · exact c15_26 ha hb
  · exact c15_27 ha hb
  · exact c15_28 ha hb
  · exact c15_29 ha hb
  · have ev : binV op a b = 0 := by unfold binV; repeat rw [if_neg (by omega)]
    have ee : binE op = 1 := by unfold binE; rw [if_neg (by omega)]
    rw [ev, ee]
    exact path_run ((y0a op a b).trans (by rw [decide_eq_true hop]; rfl))
  · have ev : binV op a b = 0 := by unfold binV; repeat rw [if_neg (by omega)]
    have ee : binE op = 1 := by unfold binE; rw [if_neg (by omega)]
    rw [ev, ee]
    exact path_run ((y0b op a b).trans (by rw [decide_eq_true hop, decide_eq_false (show ¬ op < 10 by omega)]; rfl))
noncomputable def o15 : Orc := ⟨15, fun | [.int .i64 op, .int .i32 a, .int .i32 b] => some (cdec (I32 a ∧ I32 b), r2 (binV op a b) (binE op)) | _ => none⟩
theorem o15_ok : OrcOk Tryd.prog noG o15 := orc_plain fun args v h => by
  simp only [o15] at h
  split at h
  · rename_i op a b
    obtain ⟨h1, rfl⟩ := Prod.mk.inj (Option.some.inj h)
    obtain ⟨ha, hb⟩ := of_cdec h1
    exact ⟨_, _, rfl, rfl, fun w hw => evF_calls C4_ok (T15_run ha hb) rfl rfl hw⟩
  · cases h
noncomputable def C5 : Cfg := mkC Tryd.prog noG eqT [oEx, o14, o12, o13, o15]
theorem C5_ok : C5.Ok := mkC_ok mixed (names_of names) eqs (by
  intro o ho
  simp only [List.mem_cons, List.not_mem_nil, or_false] at ho
  rcases ho with rfl | rfl | rfl | rfl | rfl
  · exact oEx_ok
  · exact o14_ok
  · exact o12_ok
  · exact o13_ok
  · exact o15_ok)
noncomputable def L3 (op a b : Int) : Tree (V × Mem × Nat) := evF C5 60 3 [.int .i64 op, .int .i32 a, .int .i32 b] [] 0
end Go.Proofs.YtinicfjmpdofaaaDoor.SX
