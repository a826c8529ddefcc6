/- Contracts of the functions that the laws of the package span call, in the evaluator's form. -/
import Derived.Test.YteghmmkhfgkdgaaEx2
import Derived.Test.YteghmmkhfgkdgaaLow
import Derived.Test.YteghmmkhfgkdgaaQSx7
import Derived.Test.YteghmmkhfgkdgaaQSx9
import Derived.Test.YteghmmkhfgkdgaaQSx10
import Derived.Test.YteghmmkhfgkdgaaQSx12
namespace Go.Proofs.Yteghmmkhfgkdgaa.SX
open Go Go.Ex Go.RowKit Go.Proofs.YteghmmkhfgkdgaaW.PrintWords Go.Proofs.Yteghmmkhfgkdgaa.QS

def eqT (t : TypeId) : Bool := Nat.beq t 28 || (Nat.beq t 31 || Nat.beq t 43)
def noG : Nat → Option (List V × TypeId) := fun _ => none

/-- What a function that takes rounds comes to. -/
noncomputable def evv {α : Type} [Inhabited α] (g : Nat → Option α) : α := @dite α (∃ r, Ev g r) (Classical.propDecidable _) (fun h => h.choose) (fun _ => default)
noncomputable def evb {α : Type} (g : Nat → Option α) : Bool := @decide (∃ r, Ev g r) (Classical.propDecidable _)
theorem Ev.uniq {α : Type} {g : Nat → Option α} {r s : α} (h : Ev g r) (k : Ev g s) : r = s := by
  obtain ⟨K, hK⟩ := h
  obtain ⟨L, hL⟩ := k
  have h1 := hK (max K L) (Nat.le_max_left _ _)
  have h2 := hL (max K L) (Nat.le_max_right _ _)
  rw [h1] at h2
  exact Option.some.inj h2
theorem evv_eq {α : Type} [Inhabited α] {g : Nat → Option α} {r : α} (h : Ev g r) : evv g = r := by
  have hx : ∃ r, Ev g r := ⟨r, h⟩
  unfold evv
  rw [dif_pos hx]
  exact Ev.uniq hx.choose_spec h
theorem evb_eq {α : Type} {g : Nat → Option α} {r : α} (h : Ev g r) : evb g = true := by
  unfold evb; exact @decide_eq_true _ (Classical.propDecidable _) ⟨r, h⟩
theorem evb_ev {α : Type} [Inhabited α] {g : Nat → Option α} (h : evb g = true) : Ev g (evv g) := by
  unfold evb at h
  have hx := @of_decide_eq_true _ (Classical.propDecidable _) h
  unfold evv
  rw [dif_pos hx]
  exact hx.choose_spec

noncomputable def smV (a b c : Int) : Int × Int × Int := evv fun _ => warpwrightref25_Small.f a b c
noncomputable def smB (a b c : Int) : Bool := evb fun _ => warpwrightref25_Small.f a b c
noncomputable def mtV (a b s c d t : Int) : Int × Int × Int × Bool := evv fun k => warpwrightlaw25_meet.f k a b s c d t
noncomputable def mtB (a b s c d t : Int) : Bool := evb fun k => warpwrightlaw25_meet.f k a b s c d t
noncomputable def jnV (a b s c d t : Int) : Int × Int × Int := evv fun k => span_Join.f k a b s c d t
noncomputable def jnB (a b s c d t : Int) : Bool := evb fun k => span_Join.f k a b s c d t
noncomputable def inV (a b s c d t : Int) : Bool := evv fun _ => warpwrightlaw25_inside.f a b s c d t
noncomputable def inB (a b s c d t : Int) : Bool := evb fun _ => warpwrightlaw25_inside.f a b s c d t

def oEx : Orc := ⟨10, fun | [] => some (true, .bool true) | _ => none⟩
noncomputable def oSm : Orc := ⟨11, fun | [.agg [.int .i64 a, .int .u32 b, .int .u16 c]] => some (smB a b c, .agg [.int .i64 (smV a b c).1, .int .i64 (smV a b c).2.1, .int .i64 (smV a b c).2.2]) | _ => none⟩
noncomputable def oMt : Orc := ⟨12, fun | [.agg [.int .i64 a, .int .i64 b, .int .i64 s], .agg [.int .i64 c, .int .i64 d, .int .i64 t]] => some (mtB a b s c d t, .agg [.int .i64 (mtV a b s c d t).1, .int .i64 (mtV a b s c d t).2.1, .int .i64 (mtV a b s c d t).2.2.1, .bool (mtV a b s c d t).2.2.2]) | _ => none⟩
noncomputable def oJn : Orc := ⟨23, fun | [.agg [.int .i64 a, .int .i64 b, .int .i64 s], .agg [.int .i64 c, .int .i64 d, .int .i64 t]] => some (jnB a b s c d t, .agg [.int .i64 (jnV a b s c d t).1, .int .i64 (jnV a b s c d t).2.1, .int .i64 (jnV a b s c d t).2.2]) | _ => none⟩
noncomputable def oIn : Orc := ⟨20, fun | [.agg [.int .i64 a, .int .i64 b, .int .i64 s], .agg [.int .i64 c, .int .i64 d, .int .i64 t]] => some (inB a b s c d t, .bool (inV a b s c d t)) | _ => none⟩

theorem oEx_ok : OrcOk Try.prog noG oEx := by
  intro args v h
  simp only [oEx] at h
  split at h
  · obtain ⟨_, rfl⟩ := Prod.mk.inj (Option.some.inj h)
    obtain ⟨k, hk⟩ := SM.examples_true.rounds
    exact ⟨[], _, rfl, rfl, fun w _ => warpwrightlaw25_examples.calls k true w hk⟩
  · cases h
theorem oSm_ok : OrcOk Try.prog noG oSm := by
  intro args v h
  simp only [oSm] at h
  split at h
  · rename_i a b c
    obtain ⟨h1, rfl⟩ := Prod.mk.inj (Option.some.inj h)
    obtain ⟨k, hk⟩ := (evb_ev h1).rounds
    exact ⟨_, _, rfl, rfl, fun w _ => warpwrightref25_Small.calls a b c _ _ _ w hk⟩
  · cases h
theorem oMt_ok : OrcOk Try.prog noG oMt := by
  intro args v h
  simp only [oMt] at h
  split at h
  · rename_i a b s c d t
    obtain ⟨h1, rfl⟩ := Prod.mk.inj (Option.some.inj h)
    obtain ⟨k, hk⟩ := (evb_ev h1).rounds
    exact ⟨_, _, rfl, rfl, fun w _ => warpwrightlaw25_meet.calls k a b s c d t _ _ _ _ w hk⟩
  · cases h
theorem oJn_ok : OrcOk Try.prog noG oJn := by
  intro args v h
  simp only [oJn] at h
  split at h
  · rename_i a b s c d t
    obtain ⟨h1, rfl⟩ := Prod.mk.inj (Option.some.inj h)
    obtain ⟨k, hk⟩ := (evb_ev h1).rounds
    exact ⟨_, _, rfl, rfl, fun w _ => span_Join.calls k a b s c d t _ _ _ w hk⟩
  · cases h
theorem oIn_ok : OrcOk Try.prog noG oIn := by
  intro args v h
  simp only [oIn] at h
  split at h
  · rename_i a b s c d t
    obtain ⟨h1, rfl⟩ := Prod.mk.inj (Option.some.inj h)
    obtain ⟨k, hk⟩ := (evb_ev h1).rounds
    exact ⟨_, _, rfl, rfl, fun w _ => warpwrightlaw25_inside.calls a b s c d t _ w hk⟩
  · cases h

noncomputable def CO : Cfg := mkC Try.prog noG eqT [oEx, oSm, oMt, oJn, oIn]
set_option maxRecDepth 100000
theorem names : (Try.prog.funcs.toList.all fun fn => !(fn.name == "runtime.NumGoroutine")) = true := by kernel_rfl
theorem mixed : Try.prog.follows .mixedOrders = true := by kernel_rfl
theorem eqs (t : TypeId) (h : eqT t = true) : Try.prog.stoodInHeld t = false ∧ Try.prog.eqGuardType Try.prog.depth t = false := by
  unfold eqT at h
  simp only [Bool.or_eq_true] at h
  rcases h with h | h | h
  · obtain rfl := Nat.eq_of_beq_eq_true h; exact ⟨Try.stoodInHeld28, Try.eqGuardType28⟩
  · obtain rfl := Nat.eq_of_beq_eq_true h; exact ⟨Try.stoodInHeld31, Try.eqGuardType31⟩
  · obtain rfl := Nat.eq_of_beq_eq_true h; exact ⟨Try.stoodInHeld43, Try.eqGuardType43⟩
theorem CO_ok : CO.Ok := mkC_ok mixed (names_of names) eqs (by
  intro o ho
  simp only [List.mem_cons, List.not_mem_nil, or_false] at ho
  rcases ho with rfl | rfl | rfl | rfl | rfl
  · exact oEx_ok
  · exact oSm_ok
  · exact oMt_ok
  · exact oJn_ok
  · exact oIn_ok)
end Go.Proofs.Yteghmmkhfgkdgaa.SX
