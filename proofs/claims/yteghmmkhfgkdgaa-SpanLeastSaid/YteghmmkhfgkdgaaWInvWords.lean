-- Words that the printed walks of this seat use, cut down to what they use (prune.py).
import Derived.Test.YteghmmkhfgkdgaaWInv
import Derived.Test.YteghmmkhfgkdgaaWFootNe
namespace Go.Proofs.YteghmmkhfgkdgaaW.PrintWords
open Go.RowKit
end Go.Proofs.YteghmmkhfgkdgaaW.PrintWords
namespace Go.Proofs.YteghmmkhfgkdgaaW.PrintLast
section
variable {ops : Array Oper} {a : Act} {o og : Oper} {g : Nat} {t : Tmp} {u : Bool}
end
end Go.Proofs.YteghmmkhfgkdgaaW.PrintLast
