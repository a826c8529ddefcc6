/- How a description of a span, handed to a law by value, reads: three numbers of their kinds. -/
import Derived.Test.YteghmmkhfgkdgaaProg
import Derived.Lib.SmallJoins
import Derived.OpenShut
import Derived.KernelRfl
namespace Go.Proofs.Yteghmmkhfgkdgaa
open Go.ChangeShapes Go.WideShapes Go.ChangeAt Go.RowKit
theorem one_int {H : Type} {enc : TypeId × Value → H} {w : World} {base : Nat} {sp : Nat → Bool} {held : Bool} {t : TypeId} {k : IntKind} {v : Value} {n : Nat} {y : DataW H × List MemPlace} (ht : Try.prog.underlying t = some (.int k))
    (h : DataW.trod enc Try.prog w base sp held n t [v] = some y) : ∃ a, v = .int k a ∧ (Lit.int k a).wf = true := by
  obtain ⟨a, e, _, hw⟩ := DataW.trod_int ht h
  simp only [List.cons.injEq, and_true] at e
  exact ⟨a, e, hw⟩
theorem openRaw {H : Type} {enc : TypeId × Value → H} {w : World} {base : Nat} {sp : Nat → Bool} {held : Bool} {r : Reach} {b0 : Nat} {v : Value} {d : DataW H} {p : List MemPlace}
    (hv : Value.okWide Try.prog w r b0 25 v) (h : DataW.Trod enc Try.prog w base sp held 25 v d p) :
    ∃ a b c : Int, v = .agg #[.int .i64 a, .int .u32 b, .int .u16 c] ∧ (Lit.int .i64 a).wf = true ∧ (Lit.int .u32 b).wf = true ∧ (Lit.int .u16 c).wf = true := by
  obtain ⟨v0, v1, v2, y0, y1, y2, n, rfl, _, _, h0, h1, h2⟩ := Joins.open_agg3 Try.underlying25 (by kernel_rfl) (by kernel_rfl) hv h
  obtain ⟨a, rfl, ha⟩ := one_int (k := .i64) Try.underlying2 h0
  obtain ⟨b, rfl, hb⟩ := one_int (k := .u32) Try.underlying22 h1
  obtain ⟨c, rfl, hc⟩ := one_int (k := .u16) Try.underlying23 h2
  exact ⟨a, b, c, rfl, ha, hb, hc⟩
end Go.Proofs.Yteghmmkhfgkdgaa
