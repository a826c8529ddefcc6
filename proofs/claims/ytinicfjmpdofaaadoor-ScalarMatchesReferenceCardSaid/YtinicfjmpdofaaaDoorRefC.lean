/- The reference's bits: that they are the bits of the two values. No condition. -/
import Derived.Test.YtinicfjmpdofaaaDoorRefB
set_option linter.unusedVariables false
set_option linter.unusedSimpArgs false
namespace Go.Proofs.YtinicfjmpdofaaaDoor.SX
open Go Go.Ex Go.RowKit
set_option maxRecDepth 100000

theorem bitI_eq {X : Nat} (h : X < 4294967296) (k : Nat) : bitI (X : Int) k = ((X / 2 ^ k % 2 : Nat) : Int) := by
  unfold bitI
  have e : Int.tdiv (X : Int) (2 ^ k) = ((X / 2 ^ k : Nat) : Int) := by
    rw [show ((2 : Int) ^ k) = ((2 ^ k : Nat) : Int) by simp]
    exact (Int.ofNat_tdiv X (2 ^ k)).symm
  have hle : X / 2 ^ k ≤ X := Nat.div_le_self _ _
  rw [e]
  clear e
  generalize X / 2 ^ k = z at *
  unfold wr64
  rw [w64_id (by omega)]
  exact (Int.ofNat_tmod z 2).symm
theorem xx_eq {a : Int} (ha : I32 a) : xx a = ((BitVec.ofInt 32 a).toNat : Int) := by
  rw [BitVec.toNat_ofInt]
  unfold xx wr64
  have hA := ha
  unfold I32 at hA
  by_cases c : a < 0
  · rw [decide_eq_true c, w64_32 ha]
    have : IntKind.i64.wrap (4294967296 * IntKind.i64.wrap (bi true)) = 4294967296 := by decide
    rw [this, w64_id (by omega)]; omega
  · rw [decide_eq_false c, w64_32 ha]
    have : IntKind.i64.wrap (4294967296 * IntKind.i64.wrap (bi false)) = 0 := by decide
    rw [this, w64_id (by omega)]; omega
theorem bitF_eq {f : Int → Int → Int} {g : Nat → Nat → Nat} (hf : ∀ p q : Nat, p < 2 → q < 2 → f (p : Int) (q : Int) = ((g p q : Nat) : Int)) (hg1 : ∀ p q, p < 2 → q < 2 → g p q < 2)
    (hg : ∀ X Y k, g X Y / 2 ^ k % 2 = g (X / 2 ^ k % 2) (Y / 2 ^ k % 2)) {X Y : Nat} (hX : X < 4294967296) (hY : Y < 4294967296) : ∀ k, k ≤ 32 → bitF f (X : Int) (Y : Int) k = ((g X Y % 2 ^ k : Nat) : Int)
  | 0, _ => by simp [bitF, Nat.mod_one]
  | k + 1, h => by
    have ih := bitF_eq hf hg1 hg hX hY k (by omega)
    show wr64 (bitF f X Y k + wr64 (f (bitI X k) (bitI Y k) * 2 ^ k)) = _
    have hp : X / 2 ^ k % 2 < 2 := Nat.mod_lt _ (by decide)
    have hq : Y / 2 ^ k % 2 < 2 := Nat.mod_lt _ (by decide)
    rw [ih, bitI_eq hX, bitI_eq hY, hf _ _ hp hq, ← hg, Nat.mod_pow_succ]
    have hr : g X Y / 2 ^ k % 2 < 2 := Nat.mod_lt _ (by decide)
    have h2 : (2 : Nat) ^ k ≤ 2 ^ 31 := Nat.pow_le_pow_right (by decide) (by omega)
    have hm : g X Y % 2 ^ k < 2 ^ k := Nat.mod_lt _ (Nat.pow_pos (by decide))
    rw [show ((2 : Int) ^ k) = ((2 ^ k : Nat) : Int) by simp]
    generalize 2 ^ k = P at *
    generalize g X Y % P = m at *
    have hc : g X Y / P % 2 = 0 ∨ g X Y / P % 2 = 1 := by omega
    generalize g X Y / P % 2 = r at *
    unfold wr64
    rcases hc with rfl | rfl
    · rw [w64_id (n := ((0 : Nat) : Int) * (P : Int)) (by omega), w64_id (by omega)]; omega
    · rw [w64_id (n := ((1 : Nat) : Int) * (P : Int)) (by omega), w64_id (by omega)]; omega
theorem two_cases {P : Nat → Nat → Prop} (h00 : P 0 0) (h01 : P 0 1) (h10 : P 1 0) (h11 : P 1 1) : ∀ p q, p < 2 → q < 2 → P p q := by
  intro p q hp hq
  have h1 : p = 0 ∨ p = 1 := by omega
  have h2 : q = 0 ∨ q = 1 := by omega
  rcases h1 with rfl | rfl <;> rcases h2 with rfl | rfl <;> assumption
theorem cv_nat {z : Nat} (h : z < 4294967296) : cv ((z % 2 ^ 32 : Nat) : Int) = w32 z := by
  rw [cv_eq, show (2 : Nat) ^ 32 = 4294967296 from rfl, Nat.mod_eq_of_lt h]
def bit3 (op a b : Int) : Int := if op = 17 then and32 a b else if op = 18 then or32 a b else xor32 a b
theorem T31_run {op a b : Int} (ha : I32 a) (hb : I32 b) (h : op = 17 ∨ op = 18 ∨ op = 19) : (T31 op a b).run = some (.int .i32 (bit3 op a b), [], 0) := by
  have hX := (BitVec.ofInt 32 a).isLt
  have hY := (BitVec.ofInt 32 b).isLt
  rcases h with rfl | rfl | rfl
  · rw [x17, xx_eq ha, xx_eq hb, bitF_eq (f := fA) (g := fun p q => p &&& q) (two_cases (by decide) (by decide) (by decide) (by decide)) (two_cases (by decide) (by decide) (by decide) (by decide))
      (fun X Y k => by rw [Nat.and_div_two_pow]; exact Nat.and_mod_two_pow (n := 1)) hX hY 32 (Nat.le_refl _), cv_nat (Nat.and_lt_two_pow (n := 32) _ hY)]
    show _ = some (V.int .i32 (w32 _), _, _)
    rw [BitVec.toNat_and]
  · rw [x18, xx_eq ha, xx_eq hb, bitF_eq (f := fO) (g := fun p q => p ||| q) (two_cases (by decide) (by decide) (by decide) (by decide)) (two_cases (by decide) (by decide) (by decide) (by decide))
      (fun X Y k => by rw [Nat.or_div_two_pow]; exact Nat.or_mod_two_pow (n := 1)) hX hY 32 (Nat.le_refl _), cv_nat (Nat.or_lt_two_pow (n := 32) hX hY)]
    show _ = some (V.int .i32 (w32 _), _, _)
    rw [BitVec.toNat_or]
  · rw [x19, xx_eq ha, xx_eq hb, bitF_eq (f := fX) (g := fun p q => p ^^^ q) (two_cases (by decide) (by decide) (by decide) (by decide)) (two_cases (by decide) (by decide) (by decide) (by decide))
      (fun X Y k => by rw [Nat.xor_div_two_pow]; exact Nat.xor_mod_two_pow (n := 1)) hX hY 32 (Nat.le_refl _), cv_nat (Nat.xor_lt_two_pow (n := 32) hX hY)]
    show _ = some (V.int .i32 (w32 _), _, _)
    rw [BitVec.toNat_xor]
noncomputable def G31 (op a b : Int) : Bool := cdec (I32 a ∧ I32 b ∧ (op = 17 ∨ op = 18 ∨ op = 19))
noncomputable def o31 : Orc := ⟨31, fun | [.int .i64 op, .int .i32 a, .int .i32 b] => some (G31 op a b, .int .i32 (bit3 op a b)) | _ => none⟩
theorem o31_ok : OrcOk Tryd.prog noG o31 := orc_plain fun args v h => by
  simp only [o31] at h
  split at h
  · rename_i op a b
    obtain ⟨h1, rfl⟩ := Prod.mk.inj (Option.some.inj h)
    obtain ⟨ha, hb, hc⟩ := of_cdec h1
    exact ⟨_, _, rfl, rfl, fun w hw => evF_calls C3_ok (T31_run ha hb hc) rfl rfl hw⟩
  · cases h
noncomputable def C4 : Cfg := mkC Tryd.prog noG eqT [o45, o29, o31]
theorem C4_ok : C4.Ok := mkC_ok mixed (names_of names) eqs (by
  intro o ho
  simp only [List.mem_cons, List.not_mem_nil, or_false] at ho
  rcases ho with rfl | rfl | rfl
  · exact o45_ok
  · exact o29_ok
  · exact o31_ok)
noncomputable def T15 (op a b : Int) : Tree (V × Mem × Nat) := evF C4 40 15 [.int .i64 op, .int .i32 a, .int .i32 b] [] 0
end Go.Proofs.YtinicfjmpdofaaaDoor.SX
