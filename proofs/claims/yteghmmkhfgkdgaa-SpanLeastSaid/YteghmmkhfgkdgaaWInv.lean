-- Words that the printed walks of this seat use, cut down to what they use (prune.py).
import Derived.Test.YteghmmkhfgkdgaaWTab
namespace Go.Proofs.YteghmmkhfgkdgaaW.PrintLast
section
variable {P : Program} {ops : Array Oper} {Q : Exit → Act → World → Prop} {md : Region.Mode} {T : Bool × List (List Nat × List Nat)} {B : List Nat} {O : List Nat} {b : Nat → Bool} {i j n : Nat}
end
end Go.Proofs.YteghmmkhfgkdgaaW.PrintLast
