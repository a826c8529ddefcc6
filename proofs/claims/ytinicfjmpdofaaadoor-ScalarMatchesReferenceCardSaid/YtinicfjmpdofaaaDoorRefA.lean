/- The reference's operator for one value, its powers of two, its truth values: what they answer. No condition. -/
import Derived.Test.YtinicfjmpdofaaaDoorLawC
set_option linter.unusedVariables false
set_option linter.unusedSimpArgs false
namespace Go.Proofs.YtinicfjmpdofaaaDoor.SX
open Go Go.Ex Go.RowKit
set_option maxRecDepth 100000

abbrev cv (x : Int) : Int := IntKind.i32.wrap (IntKind.u32.wrap (IntKind.u64.wrap x))
theorem cv_eq (x : Int) : cv x = w32 x := by
  unfold w32
  show IntKind.i32.wrap (IntKind.u32.wrap (IntKind.u64.wrap x)) = _
  rw [IntKind.wrap_i32, IntKind.wrap_i32, IntKind.wrap_u32, IntKind.wrap_u64]; omega
abbrev rv (x e : Int) : Option (V × Mem × Nat) := some (r2 x e, [], 0)
noncomputable def T13 (op a : Int) : Tree (V × Mem × Nat) := evF C1 80 13 [.int .i64 op, .int .i32 a] [] 0
theorem v1 (a : Int) : (T13 1 a).run = rv (cv (wr64 (0 - wr64 a))) 0 := by kernel_rfl
theorem v2 (a : Int) : (T13 2 a).run = rv (cv (wr64 (wr64 (0 - wr64 a) - 1))) 0 := by kernel_rfl
theorem v3 (a : Int) : (T13 3 a).run = rv (cv (if wr64 (0 - wr64 a) > wr64 a then wr64 (0 - wr64 a) else wr64 a)) 0 := by kernel_rfl
theorem v4 (a : Int) : (T13 4 a).run = rv (cv (wr64 (wr64 a * 65536))) 0 := by kernel_rfl
theorem v5 (a : Int) : (T13 5 a).run = bif decide (Int.tmod (wr64 a) 65536 < 0) then rv (cv (wr64 (wr64 (Int.tdiv (wr64 a) 65536) - 1))) 0 else rv (cv (wr64 (Int.tdiv (wr64 a) 65536))) 0 := by kernel_rfl
theorem v0 (op a : Int) : (T13 op a).run = bif op == 1 then (T13 1 a).run else bif op == 2 then (T13 2 a).run else bif op == 3 then (T13 3 a).run else bif op == 4 then (T13 4 a).run else bif op == 5 then (T13 5 a).run else rv 0 1 := by kernel_rfl
theorem floor_t {x y : Int} (h : 0 < y) : Int.fdiv x y = if Int.tmod x y < 0 then Int.tdiv x y - 1 else Int.tdiv x y := by
  rw [fdiv_tdiv (by omega)]
  by_cases c : Int.tmod x y < 0
  · rw [if_pos c, if_pos ⟨by omega, by intro q; have := q.1 c; omega⟩]
  · rw [if_neg c, if_neg]
    rintro ⟨_, q⟩
    exact q ⟨fun z => absurd z c, fun z => by omega⟩
theorem not_w (a : Int) : not32 a = w32 (0 - a - 1) := by
  rw [not32_eq, BitVec.toNat_not, BitVec.toNat_ofInt]
  apply w32_emod; omega
theorem T13_run {op a : Int} (ha : I32 a) : (T13 op a).run = some (r2 (unV op a) (unE op), [], 0) := by
  have hA := ha
  unfold I32 at hA
  have hop : op = 1 ∨ op = 2 ∨ op = 3 ∨ op = 4 ∨ op = 5 ∨ ¬ (1 ≤ op ∧ op ≤ 5) := by omega
  rcases hop with rfl | rfl | rfl | rfl | rfl | hop
  · rw [v1, cv_eq]; unfold wr64; rw [w64_32 ha, w64_id (by omega)]; rfl
  · rw [v2, cv_eq]; unfold wr64; rw [w64_32 ha, w64_id (n := 0 - a) (by omega), w64_id (by omega), ← not_w]; rfl
  · rw [v3, cv_eq]; unfold wr64; rw [w64_32 ha, w64_id (n := 0 - a) (by omega)]
    have e : unV 3 a = if a ≥ 0 then a else w32 (0 - a) := rfl
    rw [e]
    by_cases c : a ≥ 0
    · rw [if_pos c, if_neg (by omega), w32_id ha]; rfl
    · rw [if_neg c, if_pos (by omega)]; rfl
  · rw [v4, cv_eq]; unfold wr64; rw [w64_32 ha, w64_id (by omega)]; rfl
  · rw [v5, cv_eq, cv_eq]; unfold wr64
    have bd := tdiv_bd (a := a) (b := 65536) (by omega)
    rw [w64_32 ha, w64_id (n := Int.tdiv a 65536) (by omega), w64_id (n := Int.tdiv a 65536 - 1) (by omega)]
    have e := floor_t (x := a) (show (0 : Int) < 65536 by decide)
    have e5 : unV 5 a = Int.fdiv a 65536 := rfl
    have hi := two_pow_in ha 16
    have h16 : (2 : Int) ^ 16 = 65536 := rfl
    rw [h16] at hi
    rw [e5]
    by_cases c : Int.tmod a 65536 < 0
    · rw [if_pos c] at e; rw [decide_eq_true c, ← e, w32_id hi]; rfl
    · rw [if_neg c] at e; rw [decide_eq_false c, ← e, w32_id hi]; rfl
  · have ev : unV op a = 0 := by unfold unV; repeat rw [if_neg (by omega)]
    have ee : unE op = 1 := by unfold unE; rw [if_neg hop]
    have hne : ∀ k : Int, 1 ≤ k → k ≤ 5 → (op == k) = false := fun k h1 h2 => by rw [beq_eq_false_iff_ne]; omega
    rw [v0, ev, ee, hne 1 (by decide) (by decide), hne 2 (by decide) (by decide), hne 3 (by decide) (by decide), hne 4 (by decide) (by decide), hne 5 (by decide) (by decide)]
    rfl

/-! ### Powers, truth -/
noncomputable def T45 (n : Int) : Tree (V × Mem × Nat) := evF C1 80 45 [.int .i64 n] [] 0
noncomputable def chk45 (n : Nat) : Bool :=
  match (T45 n).run with
  | some (.int .i64 v, [], 0) => v == 2 ^ n
  | _ => false
theorem pw_a : ((List.range' 0 14).all chk45) = true := by kernel_rfl
theorem pw_b : ((List.range' 14 8).all chk45) = true := by kernel_rfl
theorem pw_c : ((List.range' 22 6).all chk45) = true := by kernel_rfl
theorem pw_d : ((List.range' 28 5).all chk45) = true := by kernel_rfl
theorem pw_all (k : Nat) (h : k < 33) : chk45 k = true := by
  by_cases c1 : k < 14
  · exact List.all_eq_true.1 pw_a k (List.mem_range'_1.2 (by omega))
  · by_cases c2 : k < 22
    · exact List.all_eq_true.1 pw_b k (List.mem_range'_1.2 (by omega))
    · by_cases c3 : k < 28
      · exact List.all_eq_true.1 pw_c k (List.mem_range'_1.2 (by omega))
      · exact List.all_eq_true.1 pw_d k (List.mem_range'_1.2 (by omega))
theorem T45_run {n : Int} (h : 0 ≤ n ∧ n ≤ 32) : (T45 n).run = some (.int .i64 (2 ^ n.toNat), [], 0) := by
  obtain ⟨k, rfl⟩ : ∃ k : Nat, n = k := ⟨n.toNat, by omega⟩
  have hk := pw_all k (by omega)
  unfold chk45 at hk
  split at hk
  · rename_i v hv
    rw [hv]
    have : v = 2 ^ k := by simpa using hk
    rw [this]; rfl
  · cases hk
def o45 : Orc := ⟨45, fun | [.int .i64 n] => some (decide (0 ≤ n) && decide (n ≤ 32), .int .i64 (2 ^ n.toNat)) | _ => none⟩
theorem o45_ok : OrcOk Tryd.prog noG o45 := orc_plain fun args v h => by
  simp only [o45] at h
  split at h
  · rename_i n
    obtain ⟨h1, rfl⟩ := Prod.mk.inj (Option.some.inj h)
    simp only [Bool.and_eq_true, decide_eq_true_eq] at h1
    exact ⟨_, _, rfl, rfl, fun w hw => evF_calls C1_ok (T45_run h1) rfl rfl hw⟩
  · cases h
theorem tr29 (c : Bool) : (evF C1 80 29 [.bool c] [] 0).run = some (.int .i32 (bi c), [], 0) := by cases c <;> kernel_rfl
def o29 : Orc := ⟨29, fun | [.bool c] => some (true, .int .i32 (bi c)) | _ => none⟩
theorem o29_ok : OrcOk Tryd.prog noG o29 := orc_plain fun args v h => by
  simp only [o29] at h
  split at h
  · rename_i c
    obtain ⟨h1, rfl⟩ := Prod.mk.inj (Option.some.inj h)
    exact ⟨_, _, rfl, rfl, fun w hw => evF_calls C1_ok (tr29 c) rfl rfl hw⟩
  · cases h
noncomputable def o13 : Orc := ⟨13, fun | [.int .i64 op, .int .i32 a] => some (cdec (I32 a), r2 (unV op a) (unE op)) | _ => none⟩
theorem o13_ok : OrcOk Tryd.prog noG o13 := orc_plain fun args v h => by
  simp only [o13] at h
  split at h
  · rename_i op a
    obtain ⟨h1, rfl⟩ := Prod.mk.inj (Option.some.inj h)
    exact ⟨_, _, rfl, rfl, fun w hw => evF_calls C1_ok (T13_run (of_cdec h1)) rfl rfl hw⟩
  · cases h
noncomputable def C3 : Cfg := mkC Tryd.prog noG eqT [o45, o29]
theorem C3_ok : C3.Ok := mkC_ok mixed (names_of names) eqs (by
  intro o ho
  simp only [List.mem_cons, List.not_mem_nil, or_false] at ho
  rcases ho with rfl | rfl
  · exact o45_ok
  · exact o29_ok)
noncomputable def T31 (op a b : Int) : Tree (V × Mem × Nat) := evF C3 80 31 [.int .i64 op, .int .i32 a, .int .i32 b] [] 0
end Go.Proofs.YtinicfjmpdofaaaDoor.SX
