/-
  No cell of these rows narrows 'for every input' (looked for: loops, veiled, ifaces, maps, wideKeys, modest, calm, conditions, laid).
  DERIVED. THE GIVEN ROWS OF THIS SEAT. 7 by the template 'for every input the law returns true; each argument reads behind the call as it read before'; 0 by the template 'total and deterministic' (their statements: YteghmmkhfgkdgaaTotals.lean).
  GIVEN WITH THE SEED: the statements are not yours to turn. If you find one false, say at which input.
  Laid BY PROGRAM, IN A SANDBOX (cutbox-rows.mjs): the forced cells as the released guide's own fill.sh prints them over the translation 4f861393b84ebd05… (all of the seat's roots in one cut). By AI agents, Wed Nov 11 2026. No macro, syntax, notation, axiom, sorry.
-/
import Derived.Test.YteghmmkhfgkdgaaChecked
import GoSem.Claim
import GoSem.ClaimJoined
import GoSem.ClaimMapViews
import Derived.JoinedTies
import Derived.KernelRfl
namespace Go.Proofs.Yteghmmkhfgkdgaa
/- THE CELL 'sum', in the pinned program and in every row, IS THE sha256 OF THE DUMP (.gsa) THAT YteghmmkhfgkdgaaProg.lean LOADS. Nothing in Lean hashes anything: it is a label: what it is worth is what the hold of that sum in a sandbox is worth. -/
noncomputable def Try.pinned : Pinned := { name := "yteghmmkhfgkdgaa", sum := "4f861393b84ebd05babe8115a15599a90a583e04f326e359f7e4c457ef939e72", checked := Try.checked }
namespace Rows
def none {H : Type} : Left H := { results := [], args := [] }

/-- 'warpwrightlaw25.SpanMeets': WHATEVER THE INPUT: true; the input reads as it did. -/
def spanMeetsSpec : ChangeSpec := { name := "spanMeets", fn := fun _ => fun
  | [d1, d2] => { results := [.lit (.bool true)], args := [d1, d2] }
  | _ => none }
def spanMeetsRow : OpenClaim := { program := "yteghmmkhfgkdgaa", sum := "4f861393b84ebd05babe8115a15599a90a583e04f326e359f7e4c457ef939e72", func := "warpwright/warpwrightlaw25.SpanMeets", spec := "spanMeets", unfollowed := true, recurses := true, named := ["math/bits.divideError", "math/bits.overflowError"], apart := false }
def SpanMeetsSaid : Prop := spanMeetsRow.holds Try.pinned (OpenSpec.ofChange spanMeetsSpec)

/-- ITS FALSE NEIGHBOUR: 'it returns false'. Refute it at one input. -/
def spanMeetsWrong : ChangeSpec := { name := "spanMeets", fn := fun _ => fun
  | [d1, d2] => { results := [.lit (.bool false)], args := [d1, d2] }
  | _ => none }
def SpanMeetsWrongFalsely : Prop := spanMeetsRow.holds Try.pinned (OpenSpec.ofChange spanMeetsWrong)

/-- 'warpwrightlaw25.SpanGreat': WHATEVER THE INPUT: true; the input reads as it did. -/
def spanGreatSpec : ChangeSpec := { name := "spanGreat", fn := fun _ => fun
  | [d1, d2, d3] => { results := [.lit (.bool true)], args := [d1, d2, d3] }
  | _ => none }
def spanGreatRow : OpenClaim := { program := "yteghmmkhfgkdgaa", sum := "4f861393b84ebd05babe8115a15599a90a583e04f326e359f7e4c457ef939e72", func := "warpwright/warpwrightlaw25.SpanGreat", spec := "spanGreat", unfollowed := true, recurses := true, named := ["math/bits.divideError", "math/bits.overflowError"], apart := false }
def SpanGreatSaid : Prop := spanGreatRow.holds Try.pinned (OpenSpec.ofChange spanGreatSpec)

/-- ITS FALSE NEIGHBOUR: 'it returns false'. Refute it at one input. -/
def spanGreatWrong : ChangeSpec := { name := "spanGreat", fn := fun _ => fun
  | [d1, d2, d3] => { results := [.lit (.bool false)], args := [d1, d2, d3] }
  | _ => none }
def SpanGreatWrongFalsely : Prop := spanGreatRow.holds Try.pinned (OpenSpec.ofChange spanGreatWrong)

/-- 'warpwrightlaw25.SpanOrder': WHATEVER THE INPUT: true; the input reads as it did. -/
def spanOrderSpec : ChangeSpec := { name := "spanOrder", fn := fun _ => fun
  | [d1, d2, d3] => { results := [.lit (.bool true)], args := [d1, d2, d3] }
  | _ => none }
def spanOrderRow : OpenClaim := { program := "yteghmmkhfgkdgaa", sum := "4f861393b84ebd05babe8115a15599a90a583e04f326e359f7e4c457ef939e72", func := "warpwright/warpwrightlaw25.SpanOrder", spec := "spanOrder", unfollowed := true, recurses := true, named := ["math/bits.divideError", "math/bits.overflowError"], apart := false }
def SpanOrderSaid : Prop := spanOrderRow.holds Try.pinned (OpenSpec.ofChange spanOrderSpec)

/-- ITS FALSE NEIGHBOUR: 'it returns false'. Refute it at one input. -/
def spanOrderWrong : ChangeSpec := { name := "spanOrder", fn := fun _ => fun
  | [d1, d2, d3] => { results := [.lit (.bool false)], args := [d1, d2, d3] }
  | _ => none }
def SpanOrderWrongFalsely : Prop := spanOrderRow.holds Try.pinned (OpenSpec.ofChange spanOrderWrong)

/-- 'warpwrightlaw25.SpanMods': WHATEVER THE INPUT: true; the input reads as it did. -/
def spanModsSpec : ChangeSpec := { name := "spanMods", fn := fun _ => fun
  | [d1, d2, d3] => { results := [.lit (.bool true)], args := [d1, d2, d3] }
  | _ => none }
def spanModsRow : OpenClaim := { program := "yteghmmkhfgkdgaa", sum := "4f861393b84ebd05babe8115a15599a90a583e04f326e359f7e4c457ef939e72", func := "warpwright/warpwrightlaw25.SpanMods", spec := "spanMods", unfollowed := true, recurses := true, named := ["math/bits.divideError", "math/bits.overflowError"], apart := false }
def SpanModsSaid : Prop := spanModsRow.holds Try.pinned (OpenSpec.ofChange spanModsSpec)

/-- ITS FALSE NEIGHBOUR: 'it returns false'. Refute it at one input. -/
def spanModsWrong : ChangeSpec := { name := "spanMods", fn := fun _ => fun
  | [d1, d2, d3] => { results := [.lit (.bool false)], args := [d1, d2, d3] }
  | _ => none }
def SpanModsWrongFalsely : Prop := spanModsRow.holds Try.pinned (OpenSpec.ofChange spanModsWrong)

/-- 'warpwrightlaw25.SpanMatchesReference': WHATEVER THE INPUT: true; the input reads as it did. -/
def spanMatchesReferenceSpec : ChangeSpec := { name := "spanMatchesReference", fn := fun _ => fun
  | [d1, d2, d3] => { results := [.lit (.bool true)], args := [d1, d2, d3] }
  | _ => none }
def spanMatchesReferenceRow : OpenClaim := { program := "yteghmmkhfgkdgaa", sum := "4f861393b84ebd05babe8115a15599a90a583e04f326e359f7e4c457ef939e72", func := "warpwright/warpwrightlaw25.SpanMatchesReference", spec := "spanMatchesReference", unfollowed := true, recurses := true, named := ["math/bits.divideError", "math/bits.overflowError"], apart := false }
def SpanMatchesReferenceSaid : Prop := spanMatchesReferenceRow.holds Try.pinned (OpenSpec.ofChange spanMatchesReferenceSpec)

/-- ITS FALSE NEIGHBOUR: 'it returns false'. Refute it at one input. -/
def spanMatchesReferenceWrong : ChangeSpec := { name := "spanMatchesReference", fn := fun _ => fun
  | [d1, d2, d3] => { results := [.lit (.bool false)], args := [d1, d2, d3] }
  | _ => none }
def SpanMatchesReferenceWrongFalsely : Prop := spanMatchesReferenceRow.holds Try.pinned (OpenSpec.ofChange spanMatchesReferenceWrong)

/-- 'warpwrightlaw25.SpanSums': WHATEVER THE INPUT: true; the input reads as it did. -/
def spanSumsSpec : ChangeSpec := { name := "spanSums", fn := fun _ => fun
  | [d1, d2, d3] => { results := [.lit (.bool true)], args := [d1, d2, d3] }
  | _ => none }
def spanSumsRow : OpenClaim := { program := "yteghmmkhfgkdgaa", sum := "4f861393b84ebd05babe8115a15599a90a583e04f326e359f7e4c457ef939e72", func := "warpwright/warpwrightlaw25.SpanSums", spec := "spanSums", unfollowed := true, recurses := true, named := ["math/bits.divideError", "math/bits.overflowError"], apart := false }
def SpanSumsSaid : Prop := spanSumsRow.holds Try.pinned (OpenSpec.ofChange spanSumsSpec)

/-- ITS FALSE NEIGHBOUR: 'it returns false'. Refute it at one input. -/
def spanSumsWrong : ChangeSpec := { name := "spanSums", fn := fun _ => fun
  | [d1, d2, d3] => { results := [.lit (.bool false)], args := [d1, d2, d3] }
  | _ => none }
def SpanSumsWrongFalsely : Prop := spanSumsRow.holds Try.pinned (OpenSpec.ofChange spanSumsWrong)

/-- 'warpwrightlaw25.SpanLeast': WHATEVER THE INPUT: true; the input reads as it did. -/
def spanLeastSpec : ChangeSpec := { name := "spanLeast", fn := fun _ => fun
  | [d1, d2, d3] => { results := [.lit (.bool true)], args := [d1, d2, d3] }
  | _ => none }
def spanLeastRow : OpenClaim := { program := "yteghmmkhfgkdgaa", sum := "4f861393b84ebd05babe8115a15599a90a583e04f326e359f7e4c457ef939e72", func := "warpwright/warpwrightlaw25.SpanLeast", spec := "spanLeast", unfollowed := true, recurses := true, named := ["math/bits.divideError", "math/bits.overflowError"], apart := false }
def SpanLeastSaid : Prop := spanLeastRow.holds Try.pinned (OpenSpec.ofChange spanLeastSpec)

/-- ITS FALSE NEIGHBOUR: 'it returns false'. Refute it at one input. -/
def spanLeastWrong : ChangeSpec := { name := "spanLeast", fn := fun _ => fun
  | [d1, d2, d3] => { results := [.lit (.bool false)], args := [d1, d2, d3] }
  | _ => none }
def SpanLeastWrongFalsely : Prop := spanLeastRow.holds Try.pinned (OpenSpec.ofChange spanLeastWrong)

/- THE SECOND FORM. 'bulk': how many values and letters a reading holds, each counted each time it is reached (what is shared counts as often as it is met; a slice's spare places count too). A statement '..UptoSaid' is the law's where the arguments, and the package variables that the reading takes, are together of bulk at most 1048576: NARROWER than '..Said'. Prove '..Said' where nothing that the law and all that it calls make is longer than what came in: it says more and counts as full. Else prove '..UptoSaid'. A law counts once. -/
mutual
def uptoBulk {H : Type} : DataW H → Nat
  | .lit (.string bytes) => bytes.length + 1
  | .lit _ => 1
  | .nil => 1
  | .ptr d => uptoBulk d + 1
  | .slice elems spare => uptoBulkAll elems + uptoBulkAll spare + 1
  | .agg parts => uptoBulkAll parts + 1
  | .iface _ d => uptoBulk d + 1
  | .map entries => uptoBulkEntries entries + 1
  | .held _ => 1
def uptoBulkAll {H : Type} : List (DataW H) → Nat
  | [] => 0
  | d :: r => uptoBulk d + uptoBulkAll r
def uptoBulkEntries {H : Type} : List (Lit × DataW H) → Nat
  | [] => 0
  | x :: r => uptoBulkEntry x + uptoBulkEntries r
def uptoBulkEntry {H : Type} : Lit × DataW H → Nat
  | (.string bytes, d) => bytes.length + uptoBulk d + 1
  | (_, d) => uptoBulk d + 1
 end
def uptoSmall : (H : Type) → List (DataW H) → Bool := fun _ ds => decide (uptoBulkAll ds ≤ 1048576)
def OpenSpec.upto (s : _root_.Go.ChangeSpec) : _root_.Go.OpenSpec := { _root_.Go.OpenSpec.ofChange s with cond := some uptoSmall }

/-- 'warpwrightlaw25.SpanMeets', WHERE WHAT IT READS IS OF BULK AT MOST 1048576: true; the input reads as it did. -/
def spanMeetsUptoRow : OpenClaim := { program := "yteghmmkhfgkdgaa", sum := "4f861393b84ebd05babe8115a15599a90a583e04f326e359f7e4c457ef939e72", func := "warpwright/warpwrightlaw25.SpanMeets", spec := "spanMeets", unfollowed := true, recurses := true, named := ["math/bits.divideError", "math/bits.overflowError"], apart := false, narrowed := true }
def SpanMeetsUptoSaid : Prop := spanMeetsUptoRow.holds Try.pinned (OpenSpec.upto spanMeetsSpec)

/-- 'warpwrightlaw25.SpanGreat', WHERE WHAT IT READS IS OF BULK AT MOST 1048576: true; the input reads as it did. -/
def spanGreatUptoRow : OpenClaim := { program := "yteghmmkhfgkdgaa", sum := "4f861393b84ebd05babe8115a15599a90a583e04f326e359f7e4c457ef939e72", func := "warpwright/warpwrightlaw25.SpanGreat", spec := "spanGreat", unfollowed := true, recurses := true, named := ["math/bits.divideError", "math/bits.overflowError"], apart := false, narrowed := true }
def SpanGreatUptoSaid : Prop := spanGreatUptoRow.holds Try.pinned (OpenSpec.upto spanGreatSpec)

/-- 'warpwrightlaw25.SpanOrder', WHERE WHAT IT READS IS OF BULK AT MOST 1048576: true; the input reads as it did. -/
def spanOrderUptoRow : OpenClaim := { program := "yteghmmkhfgkdgaa", sum := "4f861393b84ebd05babe8115a15599a90a583e04f326e359f7e4c457ef939e72", func := "warpwright/warpwrightlaw25.SpanOrder", spec := "spanOrder", unfollowed := true, recurses := true, named := ["math/bits.divideError", "math/bits.overflowError"], apart := false, narrowed := true }
def SpanOrderUptoSaid : Prop := spanOrderUptoRow.holds Try.pinned (OpenSpec.upto spanOrderSpec)

/-- 'warpwrightlaw25.SpanMods', WHERE WHAT IT READS IS OF BULK AT MOST 1048576: true; the input reads as it did. -/
def spanModsUptoRow : OpenClaim := { program := "yteghmmkhfgkdgaa", sum := "4f861393b84ebd05babe8115a15599a90a583e04f326e359f7e4c457ef939e72", func := "warpwright/warpwrightlaw25.SpanMods", spec := "spanMods", unfollowed := true, recurses := true, named := ["math/bits.divideError", "math/bits.overflowError"], apart := false, narrowed := true }
def SpanModsUptoSaid : Prop := spanModsUptoRow.holds Try.pinned (OpenSpec.upto spanModsSpec)

/-- 'warpwrightlaw25.SpanMatchesReference', WHERE WHAT IT READS IS OF BULK AT MOST 1048576: true; the input reads as it did. -/
def spanMatchesReferenceUptoRow : OpenClaim := { program := "yteghmmkhfgkdgaa", sum := "4f861393b84ebd05babe8115a15599a90a583e04f326e359f7e4c457ef939e72", func := "warpwright/warpwrightlaw25.SpanMatchesReference", spec := "spanMatchesReference", unfollowed := true, recurses := true, named := ["math/bits.divideError", "math/bits.overflowError"], apart := false, narrowed := true }
def SpanMatchesReferenceUptoSaid : Prop := spanMatchesReferenceUptoRow.holds Try.pinned (OpenSpec.upto spanMatchesReferenceSpec)

/-- 'warpwrightlaw25.SpanSums', WHERE WHAT IT READS IS OF BULK AT MOST 1048576: true; the input reads as it did. -/
def spanSumsUptoRow : OpenClaim := { program := "yteghmmkhfgkdgaa", sum := "4f861393b84ebd05babe8115a15599a90a583e04f326e359f7e4c457ef939e72", func := "warpwright/warpwrightlaw25.SpanSums", spec := "spanSums", unfollowed := true, recurses := true, named := ["math/bits.divideError", "math/bits.overflowError"], apart := false, narrowed := true }
def SpanSumsUptoSaid : Prop := spanSumsUptoRow.holds Try.pinned (OpenSpec.upto spanSumsSpec)

/-- 'warpwrightlaw25.SpanLeast', WHERE WHAT IT READS IS OF BULK AT MOST 1048576: true; the input reads as it did. -/
def spanLeastUptoRow : OpenClaim := { program := "yteghmmkhfgkdgaa", sum := "4f861393b84ebd05babe8115a15599a90a583e04f326e359f7e4c457ef939e72", func := "warpwright/warpwrightlaw25.SpanLeast", spec := "spanLeast", unfollowed := true, recurses := true, named := ["math/bits.divideError", "math/bits.overflowError"], apart := false, narrowed := true }
def SpanLeastUptoSaid : Prop := spanLeastUptoRow.holds Try.pinned (OpenSpec.upto spanLeastSpec)

end Rows
end Go.Proofs.Yteghmmkhfgkdgaa
