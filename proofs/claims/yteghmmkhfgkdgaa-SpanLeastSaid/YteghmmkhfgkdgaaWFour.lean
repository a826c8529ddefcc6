-- Words that the printed walks of this seat use, cut down to what they use (prune.py).
import Derived.Test.YteghmmkhfgkdgaaWTab
namespace Go.Proofs.YteghmmkhfgkdgaaW.PrintLast
section
variable {P : Program} {ops : Array Oper} {Q : Exit → Act → World → Prop} {md : Region.Mode} {S : World → Prop} {ds : List Nat} {T : Bool × List (List Nat × List Nat)}
end
end Go.Proofs.YteghmmkhfgkdgaaW.PrintLast
