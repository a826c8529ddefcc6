/- How a description of a span, handed to a law by value, reads: three numbers of their kinds. -/
import Derived.Test.YteghmmkhfgkdgaaProg
import Derived.Lib.SmallJoins
import Derived.OpenShut
import Derived.KernelRfl
namespace Go.Proofs.Yteghmmkhfgkdgaa
open Go.ChangeShapes Go.WideShapes Go.ChangeAt Go.RowKit
theorem one_int {H : Type} {enc : TypeId × Value → H} {w : World} {base : Nat} {sp : Nat → Bool} {held : Bool} {t : TypeId} {k : IntKind} {v : Value} {n : Nat} {y : DataW H × List MemPlace} (ht : Try.prog.underlying t = some (.int k))
    (h : DataW.trod enc Try.prog w base sp held n t [v] = some y) : ∃ a, v = .int k a ∧ (Lit.int k a).wf = true := by
  obtain ⟨a, e, _, hw⟩ := DataW.trod_int ht h
  simp only [List.cons.injEq, and_true] at e
  exact ⟨a, e, hw⟩
theorem openRaw {H : Type} {enc : TypeId × Value → H} {w : World} {base : Nat} {sp : Nat → Bool} {held : Bool} {r : Reach} {b0 : Nat} {v : Value} {d : DataW H} {p : List MemPlace}
    (hv : Value.okWide Try.prog w r b0 25 v) (h : DataW.Trod enc Try.prog w base sp held 25 v d p) :
    ∃ a b c : Int, v = .agg #[.int .i64 a, .int .u32 b, .int .u16 c] ∧ (Lit.int .i64 a).wf = true ∧ (Lit.int .u32 b).wf = true ∧ (Lit.int .u16 c).wf = true := by
  obtain ⟨v0, v1, v2, y0, y1, y2, n, rfl, _, _, h0, h1, h2⟩ := Joins.open_agg3 Try.underlying25 (by kernel_rfl) (by kernel_rfl) hv h
  obtain ⟨a, rfl, ha⟩ := one_int (k := .i64) Try.underlying2 h0
  obtain ⟨b, rfl, hb⟩ := one_int (k := .u32) Try.underlying22 h1
  obtain ⟨c, rfl, hc⟩ := one_int (k := .u16) Try.underlying23 h2
  exact ⟨a, b, c, rfl, ha, hb, hc⟩

/-! ### Arrays of whole numbers -/
theorem okWide_array {w : World} {r : Reach} {b0 : Nat} {t n e : Nat} {v : Value} (ht : Try.prog.underlying t = some (.array n e)) (hv : Value.okWide Try.prog w r b0 t v) : ∃ cs, v = .agg cs ∧ cs.size = Try.prog.cellsOf t := by
  simp only [Value.okWide, ht] at hv
  obtain ⟨cs, h1, h2, _⟩ := hv
  exact ⟨cs, h1, h2⟩
theorem open_arr2 {H : Type} {enc : TypeId × Value → H} {w : World} {base : Nat} {sp : Nat → Bool} {held : Bool} {r : Reach} {b0 : Nat} {t e : Nat} {k : IntKind} {v : Value} {d : DataW H} {p : List MemPlace}
    (ht : Try.prog.underlying t = some (.array 2 e)) (he : Try.prog.underlying e = some (.int k)) (hC : Try.prog.cellsOf t = 2) (hE : Try.prog.cellsOf e = 1)
    (hv : Value.okWide Try.prog w r b0 t v) (h : DataW.Trod enc Try.prog w base sp held t v d p) :
    ∃ a b : Int, v = .agg #[.int k a, .int k b] ∧ (Lit.int k a).wf = true ∧ (Lit.int k b).wf = true := by
  obtain ⟨cs, rfl, hsz⟩ := okWide_array ht hv
  obtain ⟨c0, c1, rfl⟩ := Joins.array2 (hsz.trans hC)
  obtain ⟨fuel, hf⟩ := h
  obtain ⟨xs, m, _, _, _, hlen, hx⟩ := DataW.trod_array ht hf
  have h0 := hx 0 (by decide)
  have h1 := hx 1 (by decide)
  rw [List.getElem?_eq_getElem (by omega)] at h0 h1
  simp only [Value.cells, hE] at h0 h1
  obtain ⟨a, rfl, ha⟩ := one_int he (v := c0) (by simpa using h0)
  obtain ⟨b, rfl, hb⟩ := one_int he (v := c1) (by simpa using h1)
  exact ⟨a, b, rfl, ha, hb⟩
theorem open_arr3 {H : Type} {enc : TypeId × Value → H} {w : World} {base : Nat} {sp : Nat → Bool} {held : Bool} {r : Reach} {b0 : Nat} {t e : Nat} {k : IntKind} {v : Value} {d : DataW H} {p : List MemPlace}
    (ht : Try.prog.underlying t = some (.array 3 e)) (he : Try.prog.underlying e = some (.int k)) (hC : Try.prog.cellsOf t = 3) (hE : Try.prog.cellsOf e = 1)
    (hv : Value.okWide Try.prog w r b0 t v) (h : DataW.Trod enc Try.prog w base sp held t v d p) :
    ∃ a b c : Int, v = .agg #[.int k a, .int k b, .int k c] ∧ (Lit.int k a).wf = true ∧ (Lit.int k b).wf = true ∧ (Lit.int k c).wf = true := by
  obtain ⟨cs, rfl, hsz⟩ := okWide_array ht hv
  obtain ⟨c0, c1, c2, rfl⟩ := Joins.array3 (hsz.trans hC)
  obtain ⟨fuel, hf⟩ := h
  obtain ⟨xs, m, _, _, _, hlen, hx⟩ := DataW.trod_array ht hf
  have h0 := hx 0 (by decide)
  have h1 := hx 1 (by decide)
  have h2 := hx 2 (by decide)
  rw [List.getElem?_eq_getElem (by omega)] at h0 h1 h2
  simp only [Value.cells, hE] at h0 h1 h2
  obtain ⟨a, rfl, ha⟩ := one_int he (v := c0) (by simpa using h0)
  obtain ⟨b, rfl, hb⟩ := one_int he (v := c1) (by simpa using h1)
  obtain ⟨c, rfl, hc⟩ := one_int he (v := c2) (by simpa using h2)
  exact ⟨a, b, c, rfl, ha, hb, hc⟩
theorem openU16x2 {H : Type} {enc : TypeId × Value → H} {w : World} {base : Nat} {sp : Nat → Bool} {held : Bool} {r : Reach} {b0 : Nat} {v : Value} {d : DataW H} {p : List MemPlace}
    (hv : Value.okWide Try.prog w r b0 38 v) (h : DataW.Trod enc Try.prog w base sp held 38 v d p) : ∃ a b : Int, v = .agg #[.int .u16 a, .int .u16 b] ∧ (Lit.int .u16 a).wf = true ∧ (Lit.int .u16 b).wf = true :=
  open_arr2 Try.underlying38 Try.underlying23 (by kernel_rfl) (by kernel_rfl) hv h
theorem openI64x3 {H : Type} {enc : TypeId × Value → H} {w : World} {base : Nat} {sp : Nat → Bool} {held : Bool} {r : Reach} {b0 : Nat} {v : Value} {d : DataW H} {p : List MemPlace}
    (hv : Value.okWide Try.prog w r b0 51 v) (h : DataW.Trod enc Try.prog w base sp held 51 v d p) : ∃ a b c : Int, v = .agg #[.int .i64 a, .int .i64 b, .int .i64 c] ∧ (Lit.int .i64 a).wf = true ∧ (Lit.int .i64 b).wf = true ∧ (Lit.int .i64 c).wf = true :=
  open_arr3 Try.underlying51 Try.underlying2 (by kernel_rfl) (by kernel_rfl) hv h
theorem openU16x3 {H : Type} {enc : TypeId × Value → H} {w : World} {base : Nat} {sp : Nat → Bool} {held : Bool} {r : Reach} {b0 : Nat} {v : Value} {d : DataW H} {p : List MemPlace}
    (hv : Value.okWide Try.prog w r b0 56 v) (h : DataW.Trod enc Try.prog w base sp held 56 v d p) : ∃ a b c : Int, v = .agg #[.int .u16 a, .int .u16 b, .int .u16 c] ∧ (Lit.int .u16 a).wf = true ∧ (Lit.int .u16 b).wf = true ∧ (Lit.int .u16 c).wf = true :=
  open_arr3 Try.underlying56 Try.underlying23 (by kernel_rfl) (by kernel_rfl) hv h
end Go.Proofs.Yteghmmkhfgkdgaa
