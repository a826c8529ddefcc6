/-
  NARROWER THAN 'FOR EVERY INPUT', by the rows' own cells (each row's printed sentence says how): ScalarMatchesReference: laid · ScalarRing: laid · ScalarDivides: laid · ScalarFixed: laid · ScalarBits: laid · ScalarOrder: laid · ScalarTexts: laid · ScalarTypes: laid.
  DERIVED. THE GIVEN ROWS OF THIS SEAT. 8 by the template 'for every input the law returns true; each argument reads behind the call as it read before'; 0 by the template 'total and deterministic' (their statements: YtinicfjmpdofaaaDoorTotals.lean).
  GIVEN WITH THE SEED: the statements are not yours to turn. If you find one false, say at which input.
  Laid BY PROGRAM, IN A SANDBOX (cutbox-rows.mjs): the forced cells as the released guide's own fill.sh prints them over the translation fabb03d9a7099c2f… (all of the seat's roots in one cut). By AI agents, Wed Nov 11 2026. No macro, syntax, notation, axiom, sorry.
-/
import Derived.Test.YtinicfjmpdofaaaDoorChecked
import GoSem.Claim
import GoSem.ClaimJoined
import GoSem.ClaimMapViews
import Derived.JoinedTies
import Derived.KernelRfl
namespace Go.Proofs.YtinicfjmpdofaaaDoor
/- THE CELL 'sum', in the pinned program and in every row, IS THE sha256 OF THE DUMP (.gsa) THAT YtinicfjmpdofaaaDoorProg.lean LOADS. Nothing in Lean hashes anything: it is a label: what it is worth is what the hold of that sum in a sandbox is worth. -/
noncomputable def Tryd.pinned : Pinned := { name := "ytinicfjmpdofaaadoor", sum := "fabb03d9a7099c2fef512785ae9a21362f8ab76079255457f4a0c50ac35ea527", checked := Tryd.checked }
namespace Rows
def none {H : Type} : Left H := { results := [], args := [] }

/- WHAT THE LISTED PACKAGE-LEVEL VARIABLES READ AS WHEN THE CALL BEGINS. Each datum BY PROGRAM (the guide's laid-datum.mjs) off the statement by which the dump's own 'gosem.cut.vars' lays the variable. In a bare row this is a premise. The card (YtinicfjmpdofaaaDoorCards.lean) ties it to the program's text. -/
def laid_math_bits_deBruijn32tab {H : Type} : DataW H := .agg [.lit (.int .u8 0), .lit (.int .u8 1), .lit (.int .u8 28), .lit (.int .u8 2), .lit (.int .u8 29), .lit (.int .u8 14), .lit (.int .u8 24), .lit (.int .u8 3), .lit (.int .u8 30), .lit (.int .u8 22), .lit (.int .u8 20), .lit (.int .u8 15), .lit (.int .u8 25), .lit (.int .u8 17), .lit (.int .u8 4), .lit (.int .u8 8), .lit (.int .u8 31), .lit (.int .u8 27), .lit (.int .u8 13), .lit (.int .u8 23), .lit (.int .u8 21), .lit (.int .u8 19), .lit (.int .u8 16), .lit (.int .u8 7), .lit (.int .u8 26), .lit (.int .u8 12), .lit (.int .u8 18), .lit (.int .u8 6), .lit (.int .u8 11), .lit (.int .u8 5), .lit (.int .u8 10), .lit (.int .u8 9)]
def laid_math_bits_deBruijn64tab {H : Type} : DataW H := .agg [.lit (.int .u8 0), .lit (.int .u8 1), .lit (.int .u8 56), .lit (.int .u8 2), .lit (.int .u8 57), .lit (.int .u8 49), .lit (.int .u8 28), .lit (.int .u8 3), .lit (.int .u8 61), .lit (.int .u8 58), .lit (.int .u8 42), .lit (.int .u8 50), .lit (.int .u8 38), .lit (.int .u8 29), .lit (.int .u8 17), .lit (.int .u8 4), .lit (.int .u8 62), .lit (.int .u8 47), .lit (.int .u8 59), .lit (.int .u8 36), .lit (.int .u8 45), .lit (.int .u8 43), .lit (.int .u8 51), .lit (.int .u8 22), .lit (.int .u8 53), .lit (.int .u8 39), .lit (.int .u8 33), .lit (.int .u8 30), .lit (.int .u8 24), .lit (.int .u8 18), .lit (.int .u8 12), .lit (.int .u8 5), .lit (.int .u8 63), .lit (.int .u8 55), .lit (.int .u8 48), .lit (.int .u8 27), .lit (.int .u8 60), .lit (.int .u8 41), .lit (.int .u8 37), .lit (.int .u8 16), .lit (.int .u8 46), .lit (.int .u8 35), .lit (.int .u8 44), .lit (.int .u8 21), .lit (.int .u8 52), .lit (.int .u8 32), .lit (.int .u8 23), .lit (.int .u8 11), .lit (.int .u8 54), .lit (.int .u8 26), .lit (.int .u8 40), .lit (.int .u8 15), .lit (.int .u8 34), .lit (.int .u8 20), .lit (.int .u8 31), .lit (.int .u8 10), .lit (.int .u8 25), .lit (.int .u8 14), .lit (.int .u8 19), .lit (.int .u8 9), .lit (.int .u8 13), .lit (.int .u8 8), .lit (.int .u8 7), .lit (.int .u8 6)]
def laid_internal_strconv_uint64pow10 {H : Type} : DataW H := .agg [.lit (.int .u64 1), .lit (.int .u64 10), .lit (.int .u64 100), .lit (.int .u64 1000), .lit (.int .u64 10000), .lit (.int .u64 100000), .lit (.int .u64 1000000), .lit (.int .u64 10000000), .lit (.int .u64 100000000), .lit (.int .u64 1000000000), .lit (.int .u64 10000000000), .lit (.int .u64 100000000000), .lit (.int .u64 1000000000000), .lit (.int .u64 10000000000000), .lit (.int .u64 100000000000000), .lit (.int .u64 1000000000000000), .lit (.int .u64 10000000000000000), .lit (.int .u64 100000000000000000), .lit (.int .u64 1000000000000000000), .lit (.int .u64 10000000000000000000)]
def laid_strconv_ErrRange {H : Type} : DataW H := .iface "*errors.errorString" (.ptr (.agg [.lit (.string [118, 97, 108, 117, 101, 32, 111, 117, 116, 32, 111, 102, 32, 114, 97, 110, 103, 101])]))
def laid_strconv_ErrSyntax {H : Type} : DataW H := .iface "*errors.errorString" (.ptr (.agg [.lit (.string [105, 110, 118, 97, 108, 105, 100, 32, 115, 121, 110, 116, 97, 120])]))

/-- 'warpwrightlaw01.ScalarMatchesReference': WHATEVER THE INPUT: true; the input reads as it did. -/
def scalarMatchesReferenceSpec : ChangeSpec := { name := "scalarMatchesReference", fn := fun _ => fun
  | [d1, d2, d3] => { results := [.lit (.bool true)], args := [d1, d2, d3] }
  | _ => none }
def scalarMatchesReferenceRow : OpenClaim := { program := "ytinicfjmpdofaaadoor", sum := "fabb03d9a7099c2fef512785ae9a21362f8ab76079255457f4a0c50ac35ea527", func := "warpwright/warpwrightlaw01.ScalarMatchesReference", spec := "scalarMatchesReference", inPlace := ["internal/abi.NoEscape", "internal/bytealg.IndexByteString", "internal/bytealg.IndexString"], named := ["internal/strconv.uint64pow10", "math/bits.deBruijn32tab", "math/bits.deBruijn64tab", "strconv.ErrSyntax", "strconv.ErrRange", "internal/bytealg.MaxLen"], apart := false, laid := [("math/bits.deBruijn32tab", laid_math_bits_deBruijn32tab), ("math/bits.deBruijn64tab", laid_math_bits_deBruijn64tab), ("internal/strconv.uint64pow10", laid_internal_strconv_uint64pow10), ("strconv.ErrRange", laid_strconv_ErrRange), ("strconv.ErrSyntax", laid_strconv_ErrSyntax)] }
def ScalarMatchesReferenceSaid : Prop := scalarMatchesReferenceRow.holds Tryd.pinned (OpenSpec.ofChange scalarMatchesReferenceSpec)

/-- ITS FALSE NEIGHBOUR: 'it returns false'. Refute it at one input. -/
def scalarMatchesReferenceWrong : ChangeSpec := { name := "scalarMatchesReference", fn := fun _ => fun
  | [d1, d2, d3] => { results := [.lit (.bool false)], args := [d1, d2, d3] }
  | _ => none }
def ScalarMatchesReferenceWrongFalsely : Prop := scalarMatchesReferenceRow.holds Tryd.pinned (OpenSpec.ofChange scalarMatchesReferenceWrong)

/-- 'warpwrightlaw01.ScalarRing': WHATEVER THE INPUT: true; the input reads as it did. -/
def scalarRingSpec : ChangeSpec := { name := "scalarRing", fn := fun _ => fun
  | [d1, d2, d3] => { results := [.lit (.bool true)], args := [d1, d2, d3] }
  | _ => none }
def scalarRingRow : OpenClaim := { program := "ytinicfjmpdofaaadoor", sum := "fabb03d9a7099c2fef512785ae9a21362f8ab76079255457f4a0c50ac35ea527", func := "warpwright/warpwrightlaw01.ScalarRing", spec := "scalarRing", inPlace := ["internal/abi.NoEscape", "internal/bytealg.IndexByteString", "internal/bytealg.IndexString"], named := ["internal/strconv.uint64pow10", "math/bits.deBruijn32tab", "math/bits.deBruijn64tab", "strconv.ErrSyntax", "strconv.ErrRange", "internal/bytealg.MaxLen"], apart := false, laid := [("math/bits.deBruijn32tab", laid_math_bits_deBruijn32tab), ("math/bits.deBruijn64tab", laid_math_bits_deBruijn64tab), ("internal/strconv.uint64pow10", laid_internal_strconv_uint64pow10), ("strconv.ErrRange", laid_strconv_ErrRange), ("strconv.ErrSyntax", laid_strconv_ErrSyntax)] }
def ScalarRingSaid : Prop := scalarRingRow.holds Tryd.pinned (OpenSpec.ofChange scalarRingSpec)

/-- ITS FALSE NEIGHBOUR: 'it returns false'. Refute it at one input. -/
def scalarRingWrong : ChangeSpec := { name := "scalarRing", fn := fun _ => fun
  | [d1, d2, d3] => { results := [.lit (.bool false)], args := [d1, d2, d3] }
  | _ => none }
def ScalarRingWrongFalsely : Prop := scalarRingRow.holds Tryd.pinned (OpenSpec.ofChange scalarRingWrong)

/-- 'warpwrightlaw01.ScalarDivides': WHATEVER THE INPUT: true; the input reads as it did. -/
def scalarDividesSpec : ChangeSpec := { name := "scalarDivides", fn := fun _ => fun
  | [d1, d2] => { results := [.lit (.bool true)], args := [d1, d2] }
  | _ => none }
def scalarDividesRow : OpenClaim := { program := "ytinicfjmpdofaaadoor", sum := "fabb03d9a7099c2fef512785ae9a21362f8ab76079255457f4a0c50ac35ea527", func := "warpwright/warpwrightlaw01.ScalarDivides", spec := "scalarDivides", inPlace := ["internal/abi.NoEscape", "internal/bytealg.IndexByteString", "internal/bytealg.IndexString"], named := ["internal/strconv.uint64pow10", "math/bits.deBruijn32tab", "math/bits.deBruijn64tab", "strconv.ErrSyntax", "strconv.ErrRange", "internal/bytealg.MaxLen"], apart := false, laid := [("math/bits.deBruijn32tab", laid_math_bits_deBruijn32tab), ("math/bits.deBruijn64tab", laid_math_bits_deBruijn64tab), ("internal/strconv.uint64pow10", laid_internal_strconv_uint64pow10), ("strconv.ErrRange", laid_strconv_ErrRange), ("strconv.ErrSyntax", laid_strconv_ErrSyntax)] }
def ScalarDividesSaid : Prop := scalarDividesRow.holds Tryd.pinned (OpenSpec.ofChange scalarDividesSpec)

/-- ITS FALSE NEIGHBOUR: 'it returns false'. Refute it at one input. -/
def scalarDividesWrong : ChangeSpec := { name := "scalarDivides", fn := fun _ => fun
  | [d1, d2] => { results := [.lit (.bool false)], args := [d1, d2] }
  | _ => none }
def ScalarDividesWrongFalsely : Prop := scalarDividesRow.holds Tryd.pinned (OpenSpec.ofChange scalarDividesWrong)

/-- 'warpwrightlaw01.ScalarFixed': WHATEVER THE INPUT: true; the input reads as it did. -/
def scalarFixedSpec : ChangeSpec := { name := "scalarFixed", fn := fun _ => fun
  | [d1, d2, d3] => { results := [.lit (.bool true)], args := [d1, d2, d3] }
  | _ => none }
def scalarFixedRow : OpenClaim := { program := "ytinicfjmpdofaaadoor", sum := "fabb03d9a7099c2fef512785ae9a21362f8ab76079255457f4a0c50ac35ea527", func := "warpwright/warpwrightlaw01.ScalarFixed", spec := "scalarFixed", inPlace := ["internal/abi.NoEscape", "internal/bytealg.IndexByteString", "internal/bytealg.IndexString"], named := ["internal/strconv.uint64pow10", "math/bits.deBruijn32tab", "math/bits.deBruijn64tab", "strconv.ErrSyntax", "strconv.ErrRange", "internal/bytealg.MaxLen"], apart := false, laid := [("math/bits.deBruijn32tab", laid_math_bits_deBruijn32tab), ("math/bits.deBruijn64tab", laid_math_bits_deBruijn64tab), ("internal/strconv.uint64pow10", laid_internal_strconv_uint64pow10), ("strconv.ErrRange", laid_strconv_ErrRange), ("strconv.ErrSyntax", laid_strconv_ErrSyntax)] }
def ScalarFixedSaid : Prop := scalarFixedRow.holds Tryd.pinned (OpenSpec.ofChange scalarFixedSpec)

/-- ITS FALSE NEIGHBOUR: 'it returns false'. Refute it at one input. -/
def scalarFixedWrong : ChangeSpec := { name := "scalarFixed", fn := fun _ => fun
  | [d1, d2, d3] => { results := [.lit (.bool false)], args := [d1, d2, d3] }
  | _ => none }
def ScalarFixedWrongFalsely : Prop := scalarFixedRow.holds Tryd.pinned (OpenSpec.ofChange scalarFixedWrong)

/-- 'warpwrightlaw01.ScalarBits': WHATEVER THE INPUT: true; the input reads as it did. -/
def scalarBitsSpec : ChangeSpec := { name := "scalarBits", fn := fun _ => fun
  | [d1, d2, d3] => { results := [.lit (.bool true)], args := [d1, d2, d3] }
  | _ => none }
def scalarBitsRow : OpenClaim := { program := "ytinicfjmpdofaaadoor", sum := "fabb03d9a7099c2fef512785ae9a21362f8ab76079255457f4a0c50ac35ea527", func := "warpwright/warpwrightlaw01.ScalarBits", spec := "scalarBits", inPlace := ["internal/abi.NoEscape", "internal/bytealg.IndexByteString", "internal/bytealg.IndexString"], named := ["internal/strconv.uint64pow10", "math/bits.deBruijn32tab", "math/bits.deBruijn64tab", "strconv.ErrSyntax", "strconv.ErrRange", "internal/bytealg.MaxLen"], apart := false, laid := [("math/bits.deBruijn32tab", laid_math_bits_deBruijn32tab), ("math/bits.deBruijn64tab", laid_math_bits_deBruijn64tab), ("internal/strconv.uint64pow10", laid_internal_strconv_uint64pow10), ("strconv.ErrRange", laid_strconv_ErrRange), ("strconv.ErrSyntax", laid_strconv_ErrSyntax)] }
def ScalarBitsSaid : Prop := scalarBitsRow.holds Tryd.pinned (OpenSpec.ofChange scalarBitsSpec)

/-- ITS FALSE NEIGHBOUR: 'it returns false'. Refute it at one input. -/
def scalarBitsWrong : ChangeSpec := { name := "scalarBits", fn := fun _ => fun
  | [d1, d2, d3] => { results := [.lit (.bool false)], args := [d1, d2, d3] }
  | _ => none }
def ScalarBitsWrongFalsely : Prop := scalarBitsRow.holds Tryd.pinned (OpenSpec.ofChange scalarBitsWrong)

/-- 'warpwrightlaw01.ScalarOrder': WHATEVER THE INPUT: true; the input reads as it did. -/
def scalarOrderSpec : ChangeSpec := { name := "scalarOrder", fn := fun _ => fun
  | [d1, d2] => { results := [.lit (.bool true)], args := [d1, d2] }
  | _ => none }
def scalarOrderRow : OpenClaim := { program := "ytinicfjmpdofaaadoor", sum := "fabb03d9a7099c2fef512785ae9a21362f8ab76079255457f4a0c50ac35ea527", func := "warpwright/warpwrightlaw01.ScalarOrder", spec := "scalarOrder", inPlace := ["internal/abi.NoEscape", "internal/bytealg.IndexByteString", "internal/bytealg.IndexString"], named := ["internal/strconv.uint64pow10", "math/bits.deBruijn32tab", "math/bits.deBruijn64tab", "strconv.ErrSyntax", "strconv.ErrRange", "internal/bytealg.MaxLen"], apart := false, laid := [("math/bits.deBruijn32tab", laid_math_bits_deBruijn32tab), ("math/bits.deBruijn64tab", laid_math_bits_deBruijn64tab), ("internal/strconv.uint64pow10", laid_internal_strconv_uint64pow10), ("strconv.ErrRange", laid_strconv_ErrRange), ("strconv.ErrSyntax", laid_strconv_ErrSyntax)] }
def ScalarOrderSaid : Prop := scalarOrderRow.holds Tryd.pinned (OpenSpec.ofChange scalarOrderSpec)

/-- ITS FALSE NEIGHBOUR: 'it returns false'. Refute it at one input. -/
def scalarOrderWrong : ChangeSpec := { name := "scalarOrder", fn := fun _ => fun
  | [d1, d2] => { results := [.lit (.bool false)], args := [d1, d2] }
  | _ => none }
def ScalarOrderWrongFalsely : Prop := scalarOrderRow.holds Tryd.pinned (OpenSpec.ofChange scalarOrderWrong)

/-- 'warpwrightlaw01.ScalarTexts': WHATEVER THE INPUT: true; the input reads as it did. -/
def scalarTextsSpec : ChangeSpec := { name := "scalarTexts", fn := fun _ => fun
  | [d1, d2, d3] => { results := [.lit (.bool true)], args := [d1, d2, d3] }
  | _ => none }
def scalarTextsRow : OpenClaim := { program := "ytinicfjmpdofaaadoor", sum := "fabb03d9a7099c2fef512785ae9a21362f8ab76079255457f4a0c50ac35ea527", func := "warpwright/warpwrightlaw01.ScalarTexts", spec := "scalarTexts", inPlace := ["internal/abi.NoEscape", "internal/bytealg.IndexByteString", "internal/bytealg.IndexString"], recurses := true, named := ["internal/strconv.uint64pow10", "math/bits.deBruijn32tab", "math/bits.deBruijn64tab", "strconv.ErrSyntax", "strconv.ErrRange", "internal/bytealg.MaxLen"], apart := false, laid := [("math/bits.deBruijn32tab", laid_math_bits_deBruijn32tab), ("math/bits.deBruijn64tab", laid_math_bits_deBruijn64tab), ("internal/strconv.uint64pow10", laid_internal_strconv_uint64pow10), ("strconv.ErrRange", laid_strconv_ErrRange), ("strconv.ErrSyntax", laid_strconv_ErrSyntax)] }
def ScalarTextsSaid : Prop := scalarTextsRow.holds Tryd.pinned (OpenSpec.ofChange scalarTextsSpec)

/-- ITS FALSE NEIGHBOUR: 'it returns false'. Refute it at one input. -/
def scalarTextsWrong : ChangeSpec := { name := "scalarTexts", fn := fun _ => fun
  | [d1, d2, d3] => { results := [.lit (.bool false)], args := [d1, d2, d3] }
  | _ => none }
def ScalarTextsWrongFalsely : Prop := scalarTextsRow.holds Tryd.pinned (OpenSpec.ofChange scalarTextsWrong)

/-- 'warpwrightlaw01.ScalarTypes': WHATEVER THE INPUT: true; the input reads as it did. -/
def scalarTypesSpec : ChangeSpec := { name := "scalarTypes", fn := fun _ => fun
  | [d1, d2, d3] => { results := [.lit (.bool true)], args := [d1, d2, d3] }
  | _ => none }
def scalarTypesRow : OpenClaim := { program := "ytinicfjmpdofaaadoor", sum := "fabb03d9a7099c2fef512785ae9a21362f8ab76079255457f4a0c50ac35ea527", func := "warpwright/warpwrightlaw01.ScalarTypes", spec := "scalarTypes", inPlace := ["internal/abi.NoEscape", "internal/bytealg.IndexByteString", "internal/bytealg.IndexString"], named := ["internal/strconv.uint64pow10", "math/bits.deBruijn32tab", "math/bits.deBruijn64tab", "strconv.ErrSyntax", "strconv.ErrRange", "internal/bytealg.MaxLen"], apart := false, laid := [("math/bits.deBruijn32tab", laid_math_bits_deBruijn32tab), ("math/bits.deBruijn64tab", laid_math_bits_deBruijn64tab), ("internal/strconv.uint64pow10", laid_internal_strconv_uint64pow10), ("strconv.ErrRange", laid_strconv_ErrRange), ("strconv.ErrSyntax", laid_strconv_ErrSyntax)] }
def ScalarTypesSaid : Prop := scalarTypesRow.holds Tryd.pinned (OpenSpec.ofChange scalarTypesSpec)

/-- ITS FALSE NEIGHBOUR: 'it returns false'. Refute it at one input. -/
def scalarTypesWrong : ChangeSpec := { name := "scalarTypes", fn := fun _ => fun
  | [d1, d2, d3] => { results := [.lit (.bool false)], args := [d1, d2, d3] }
  | _ => none }
def ScalarTypesWrongFalsely : Prop := scalarTypesRow.holds Tryd.pinned (OpenSpec.ofChange scalarTypesWrong)

/- THE SECOND FORM. 'bulk': how many values and letters a reading holds, each counted each time it is reached (what is shared counts as often as it is met; a slice's spare places count too). A statement '..UptoSaid' is the law's where the arguments, and the package variables that the reading takes, are together of bulk at most 1048576: NARROWER than '..Said'. Prove '..Said' where nothing that the law and all that it calls make is longer than what came in: it says more and counts as full. Else prove '..UptoSaid'. A law counts once. -/
mutual
def uptoBulk {H : Type} : DataW H → Nat
  | .lit (.string bytes) => bytes.length + 1
  | .lit _ => 1
  | .nil => 1
  | .ptr d => uptoBulk d + 1
  | .slice elems spare => uptoBulkAll elems + uptoBulkAll spare + 1
  | .agg parts => uptoBulkAll parts + 1
  | .iface _ d => uptoBulk d + 1
  | .map entries => uptoBulkEntries entries + 1
  | .held _ => 1
def uptoBulkAll {H : Type} : List (DataW H) → Nat
  | [] => 0
  | d :: r => uptoBulk d + uptoBulkAll r
def uptoBulkEntries {H : Type} : List (Lit × DataW H) → Nat
  | [] => 0
  | x :: r => uptoBulkEntry x + uptoBulkEntries r
def uptoBulkEntry {H : Type} : Lit × DataW H → Nat
  | (.string bytes, d) => bytes.length + uptoBulk d + 1
  | (_, d) => uptoBulk d + 1
 end
def uptoSmall : (H : Type) → List (DataW H) → Bool := fun _ ds => decide (uptoBulkAll ds ≤ 1048576)
def OpenSpec.upto (s : _root_.Go.ChangeSpec) : _root_.Go.OpenSpec := { _root_.Go.OpenSpec.ofChange s with cond := some uptoSmall }

/-- 'warpwrightlaw01.ScalarMatchesReference', WHERE WHAT IT READS IS OF BULK AT MOST 1048576: true; the input reads as it did. -/
def scalarMatchesReferenceUptoRow : OpenClaim := { program := "ytinicfjmpdofaaadoor", sum := "fabb03d9a7099c2fef512785ae9a21362f8ab76079255457f4a0c50ac35ea527", func := "warpwright/warpwrightlaw01.ScalarMatchesReference", spec := "scalarMatchesReference", inPlace := ["internal/abi.NoEscape", "internal/bytealg.IndexByteString", "internal/bytealg.IndexString"], named := ["internal/strconv.uint64pow10", "math/bits.deBruijn32tab", "math/bits.deBruijn64tab", "strconv.ErrSyntax", "strconv.ErrRange", "internal/bytealg.MaxLen"], apart := false, laid := [("math/bits.deBruijn32tab", laid_math_bits_deBruijn32tab), ("math/bits.deBruijn64tab", laid_math_bits_deBruijn64tab), ("internal/strconv.uint64pow10", laid_internal_strconv_uint64pow10), ("strconv.ErrRange", laid_strconv_ErrRange), ("strconv.ErrSyntax", laid_strconv_ErrSyntax)], narrowed := true }
def ScalarMatchesReferenceUptoSaid : Prop := scalarMatchesReferenceUptoRow.holds Tryd.pinned (OpenSpec.upto scalarMatchesReferenceSpec)

/-- 'warpwrightlaw01.ScalarRing', WHERE WHAT IT READS IS OF BULK AT MOST 1048576: true; the input reads as it did. -/
def scalarRingUptoRow : OpenClaim := { program := "ytinicfjmpdofaaadoor", sum := "fabb03d9a7099c2fef512785ae9a21362f8ab76079255457f4a0c50ac35ea527", func := "warpwright/warpwrightlaw01.ScalarRing", spec := "scalarRing", inPlace := ["internal/abi.NoEscape", "internal/bytealg.IndexByteString", "internal/bytealg.IndexString"], named := ["internal/strconv.uint64pow10", "math/bits.deBruijn32tab", "math/bits.deBruijn64tab", "strconv.ErrSyntax", "strconv.ErrRange", "internal/bytealg.MaxLen"], apart := false, laid := [("math/bits.deBruijn32tab", laid_math_bits_deBruijn32tab), ("math/bits.deBruijn64tab", laid_math_bits_deBruijn64tab), ("internal/strconv.uint64pow10", laid_internal_strconv_uint64pow10), ("strconv.ErrRange", laid_strconv_ErrRange), ("strconv.ErrSyntax", laid_strconv_ErrSyntax)], narrowed := true }
def ScalarRingUptoSaid : Prop := scalarRingUptoRow.holds Tryd.pinned (OpenSpec.upto scalarRingSpec)

/-- 'warpwrightlaw01.ScalarDivides', WHERE WHAT IT READS IS OF BULK AT MOST 1048576: true; the input reads as it did. -/
def scalarDividesUptoRow : OpenClaim := { program := "ytinicfjmpdofaaadoor", sum := "fabb03d9a7099c2fef512785ae9a21362f8ab76079255457f4a0c50ac35ea527", func := "warpwright/warpwrightlaw01.ScalarDivides", spec := "scalarDivides", inPlace := ["internal/abi.NoEscape", "internal/bytealg.IndexByteString", "internal/bytealg.IndexString"], named := ["internal/strconv.uint64pow10", "math/bits.deBruijn32tab", "math/bits.deBruijn64tab", "strconv.ErrSyntax", "strconv.ErrRange", "internal/bytealg.MaxLen"], apart := false, laid := [("math/bits.deBruijn32tab", laid_math_bits_deBruijn32tab), ("math/bits.deBruijn64tab", laid_math_bits_deBruijn64tab), ("internal/strconv.uint64pow10", laid_internal_strconv_uint64pow10), ("strconv.ErrRange", laid_strconv_ErrRange), ("strconv.ErrSyntax", laid_strconv_ErrSyntax)], narrowed := true }
def ScalarDividesUptoSaid : Prop := scalarDividesUptoRow.holds Tryd.pinned (OpenSpec.upto scalarDividesSpec)

/-- 'warpwrightlaw01.ScalarFixed', WHERE WHAT IT READS IS OF BULK AT MOST 1048576: true; the input reads as it did. -/
def scalarFixedUptoRow : OpenClaim := { program := "ytinicfjmpdofaaadoor", sum := "fabb03d9a7099c2fef512785ae9a21362f8ab76079255457f4a0c50ac35ea527", func := "warpwright/warpwrightlaw01.ScalarFixed", spec := "scalarFixed", inPlace := ["internal/abi.NoEscape", "internal/bytealg.IndexByteString", "internal/bytealg.IndexString"], named := ["internal/strconv.uint64pow10", "math/bits.deBruijn32tab", "math/bits.deBruijn64tab", "strconv.ErrSyntax", "strconv.ErrRange", "internal/bytealg.MaxLen"], apart := false, laid := [("math/bits.deBruijn32tab", laid_math_bits_deBruijn32tab), ("math/bits.deBruijn64tab", laid_math_bits_deBruijn64tab), ("internal/strconv.uint64pow10", laid_internal_strconv_uint64pow10), ("strconv.ErrRange", laid_strconv_ErrRange), ("strconv.ErrSyntax", laid_strconv_ErrSyntax)], narrowed := true }
def ScalarFixedUptoSaid : Prop := scalarFixedUptoRow.holds Tryd.pinned (OpenSpec.upto scalarFixedSpec)

/-- 'warpwrightlaw01.ScalarBits', WHERE WHAT IT READS IS OF BULK AT MOST 1048576: true; the input reads as it did. -/
def scalarBitsUptoRow : OpenClaim := { program := "ytinicfjmpdofaaadoor", sum := "fabb03d9a7099c2fef512785ae9a21362f8ab76079255457f4a0c50ac35ea527", func := "warpwright/warpwrightlaw01.ScalarBits", spec := "scalarBits", inPlace := ["internal/abi.NoEscape", "internal/bytealg.IndexByteString", "internal/bytealg.IndexString"], named := ["internal/strconv.uint64pow10", "math/bits.deBruijn32tab", "math/bits.deBruijn64tab", "strconv.ErrSyntax", "strconv.ErrRange", "internal/bytealg.MaxLen"], apart := false, laid := [("math/bits.deBruijn32tab", laid_math_bits_deBruijn32tab), ("math/bits.deBruijn64tab", laid_math_bits_deBruijn64tab), ("internal/strconv.uint64pow10", laid_internal_strconv_uint64pow10), ("strconv.ErrRange", laid_strconv_ErrRange), ("strconv.ErrSyntax", laid_strconv_ErrSyntax)], narrowed := true }
def ScalarBitsUptoSaid : Prop := scalarBitsUptoRow.holds Tryd.pinned (OpenSpec.upto scalarBitsSpec)

/-- 'warpwrightlaw01.ScalarOrder', WHERE WHAT IT READS IS OF BULK AT MOST 1048576: true; the input reads as it did. -/
def scalarOrderUptoRow : OpenClaim := { program := "ytinicfjmpdofaaadoor", sum := "fabb03d9a7099c2fef512785ae9a21362f8ab76079255457f4a0c50ac35ea527", func := "warpwright/warpwrightlaw01.ScalarOrder", spec := "scalarOrder", inPlace := ["internal/abi.NoEscape", "internal/bytealg.IndexByteString", "internal/bytealg.IndexString"], named := ["internal/strconv.uint64pow10", "math/bits.deBruijn32tab", "math/bits.deBruijn64tab", "strconv.ErrSyntax", "strconv.ErrRange", "internal/bytealg.MaxLen"], apart := false, laid := [("math/bits.deBruijn32tab", laid_math_bits_deBruijn32tab), ("math/bits.deBruijn64tab", laid_math_bits_deBruijn64tab), ("internal/strconv.uint64pow10", laid_internal_strconv_uint64pow10), ("strconv.ErrRange", laid_strconv_ErrRange), ("strconv.ErrSyntax", laid_strconv_ErrSyntax)], narrowed := true }
def ScalarOrderUptoSaid : Prop := scalarOrderUptoRow.holds Tryd.pinned (OpenSpec.upto scalarOrderSpec)

/-- 'warpwrightlaw01.ScalarTexts', WHERE WHAT IT READS IS OF BULK AT MOST 1048576: true; the input reads as it did. -/
def scalarTextsUptoRow : OpenClaim := { program := "ytinicfjmpdofaaadoor", sum := "fabb03d9a7099c2fef512785ae9a21362f8ab76079255457f4a0c50ac35ea527", func := "warpwright/warpwrightlaw01.ScalarTexts", spec := "scalarTexts", inPlace := ["internal/abi.NoEscape", "internal/bytealg.IndexByteString", "internal/bytealg.IndexString"], recurses := true, named := ["internal/strconv.uint64pow10", "math/bits.deBruijn32tab", "math/bits.deBruijn64tab", "strconv.ErrSyntax", "strconv.ErrRange", "internal/bytealg.MaxLen"], apart := false, laid := [("math/bits.deBruijn32tab", laid_math_bits_deBruijn32tab), ("math/bits.deBruijn64tab", laid_math_bits_deBruijn64tab), ("internal/strconv.uint64pow10", laid_internal_strconv_uint64pow10), ("strconv.ErrRange", laid_strconv_ErrRange), ("strconv.ErrSyntax", laid_strconv_ErrSyntax)], narrowed := true }
def ScalarTextsUptoSaid : Prop := scalarTextsUptoRow.holds Tryd.pinned (OpenSpec.upto scalarTextsSpec)

/-- 'warpwrightlaw01.ScalarTypes', WHERE WHAT IT READS IS OF BULK AT MOST 1048576: true; the input reads as it did. -/
def scalarTypesUptoRow : OpenClaim := { program := "ytinicfjmpdofaaadoor", sum := "fabb03d9a7099c2fef512785ae9a21362f8ab76079255457f4a0c50ac35ea527", func := "warpwright/warpwrightlaw01.ScalarTypes", spec := "scalarTypes", inPlace := ["internal/abi.NoEscape", "internal/bytealg.IndexByteString", "internal/bytealg.IndexString"], named := ["internal/strconv.uint64pow10", "math/bits.deBruijn32tab", "math/bits.deBruijn64tab", "strconv.ErrSyntax", "strconv.ErrRange", "internal/bytealg.MaxLen"], apart := false, laid := [("math/bits.deBruijn32tab", laid_math_bits_deBruijn32tab), ("math/bits.deBruijn64tab", laid_math_bits_deBruijn64tab), ("internal/strconv.uint64pow10", laid_internal_strconv_uint64pow10), ("strconv.ErrRange", laid_strconv_ErrRange), ("strconv.ErrSyntax", laid_strconv_ErrSyntax)], narrowed := true }
def ScalarTypesUptoSaid : Prop := scalarTypesUptoRow.holds Tryd.pinned (OpenSpec.upto scalarTypesSpec)

end Rows
end Go.Proofs.YtinicfjmpdofaaaDoor
