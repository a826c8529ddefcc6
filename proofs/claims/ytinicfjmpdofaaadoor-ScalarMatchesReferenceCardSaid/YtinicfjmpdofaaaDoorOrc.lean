/- Contracts in the evaluator's form: texts of small numbers, the place of a byte; and that the examples answer true. No condition. -/
import Derived.Test.YtinicfjmpdofaaaDoorFix
set_option linter.unusedVariables false
namespace Go.Proofs.YtinicfjmpdofaaaDoor.SX
open Go Go.Ex Go.RowKit Go.Proofs.YtinicfjmpdofaaaDoor.BL
set_option maxRecDepth 100000

def eqT (t : TypeId) : Bool := Nat.beq t 25 || (Nat.beq t 36 || Nat.beq t 44)
def noG : Nat → Option (List V × TypeId) := fun _ => none
theorem names : (Tryd.prog.funcs.toList.all fun fn => !(fn.name == "runtime.NumGoroutine")) = true := by kernel_rfl
theorem mixed : Tryd.prog.follows .mixedOrders = true := by kernel_rfl
theorem eqs (t : TypeId) (h : eqT t = true) : Tryd.prog.stoodInHeld t = false ∧ Tryd.prog.eqGuardType Tryd.prog.depth t = false := by
  have a : ∀ t, (Tryd.prog.stoodInHeld t = false ∧ Tryd.prog.eqGuardType Tryd.prog.depth t = false) ↔ (Tryd.prog.stoodInHeld t || Tryd.prog.eqGuardType Tryd.prog.depth t) = false := by intro t; simp
  unfold eqT at h
  simp only [Bool.or_eq_true] at h
  rcases h with h | h | h
  · obtain rfl := Nat.eq_of_beq_eq_true h; exact (a _).2 (by kernel_rfl)
  · obtain rfl := Nat.eq_of_beq_eq_true h; exact (a _).2 (by kernel_rfl)
  · obtain rfl := Nat.eq_of_beq_eq_true h; exact (a _).2 (by kernel_rfl)

def o48 : Orc := ⟨48, fun | [.int .i64 n] => some (decide (0 ≤ n) && decide (n < 100), strL (itoaL n)) | _ => none⟩
def o49 : Orc := ⟨49, fun | [.int .i64 n] => some (decide (-6553600 < n) && decide (n < 6553600), strL (fixL n)) | _ => none⟩
def o87 : Orc := ⟨87, fun | [.str s, .str p] => (match p.data.toList with | [c] => some (true, .int .i64 (Lib.indexByte s.data.toList c)) | _ => none) | _ => none⟩
theorem o48_ok : OrcOk Tryd.prog noG o48 := orc_plain fun args v h => by
  simp only [o48] at h
  split at h
  · rename_i n
    obtain ⟨h1, rfl⟩ := Prod.mk.inj (Option.some.inj h)
    simp only [Bool.and_eq_true, decide_eq_true_eq] at h1
    obtain ⟨m, rfl⟩ : ∃ m : Nat, n = m := ⟨n.toNat, by omega⟩
    refine ⟨_, _, rfl, rfl, fun w _ => (Tryd.strconv_Itoa_small m (by omega) w).mono fun e w' ⟨e1, e2⟩ => ⟨e1.trans ?_, by rw [e2]; exact Below.refl _ _⟩⟩
    have : itoaL (m : Int) = Lib.decDigits m := decF_eq 19 m (by omega)
    rw [this]
  · cases h
theorem o49_ok : OrcOk Tryd.prog noG o49 := orc_plain fun args v h => by
  simp only [o49] at h
  split at h
  · rename_i n
    obtain ⟨h1, rfl⟩ := Prod.mk.inj (Option.some.inj h)
    simp only [Bool.and_eq_true, decide_eq_true_eq] at h1
    exact ⟨_, _, rfl, rfl, fun w _ => fixed_walk n h1.1 h1.2 w⟩
  · cases h
theorem o87_ok : OrcOk Tryd.prog noG o87 := orc_plain fun args v h => by
  simp only [o87] at h
  split at h
  · rename_i s p
    split at h
    · rename_i c hc
      obtain ⟨_, rfl⟩ := Prod.mk.inj (Option.some.inj h)
      obtain ⟨⟨l⟩⟩ := p
      obtain rfl : l = [c] := hc
      exact ⟨_, _, rfl, rfl, fun w _ => (Tryd.stringslite_Index_one s c w).mono fun e w' ⟨e1, e2⟩ => ⟨e1, by rw [e2]; exact Below.refl _ _⟩⟩
    · cases h
  · cases h
noncomputable def C0 : Cfg := mkC Tryd.prog noG eqT [o48, o49, o87]
theorem C0_ok : C0.Ok := mkC_ok mixed (names_of names) eqs (by
  intro o ho
  simp only [List.mem_cons, List.not_mem_nil, or_false] at ho
  rcases ho with rfl | rfl | rfl
  · exact o48_ok
  · exact o49_ok
  · exact o87_ok)
theorem ex_run : (evF C0 24 11 [] [] 0).run = some (.bool true, [], 0) := by kernel_rfl
/-- The examples answer true. -/
def oEx : Orc := ⟨11, fun | [] => some (true, .bool true) | _ => none⟩
theorem oEx_ok : OrcOk Tryd.prog noG oEx := orc_plain fun args v h => by
  simp only [oEx] at h
  split at h
  · obtain ⟨_, rfl⟩ := Prod.mk.inj (Option.some.inj h)
    exact ⟨[], _, rfl, rfl, fun w hw => evF_calls C0_ok ex_run rfl rfl hw⟩
  · cases h
noncomputable def C1 : Cfg := mkC Tryd.prog noG eqT [oEx]
theorem C1_ok : C1.Ok := mkC_ok mixed (names_of names) eqs (by
  intro o ho
  simp only [List.mem_cons, List.not_mem_nil, or_false] at ho
  rcases ho with rfl
  exact oEx_ok)
end Go.Proofs.YtinicfjmpdofaaaDoor.SX
