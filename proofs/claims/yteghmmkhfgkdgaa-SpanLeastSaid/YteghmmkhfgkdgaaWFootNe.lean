-- Words that the printed walks of this seat use, cut down to what they use (prune.py).
import Derived.Test.YteghmmkhfgkdgaaWN
namespace Go.Proofs.YteghmmkhfgkdgaaW.PrintWords
open Go.RowKit
namespace Kd
section
variable {α : Type} {d : Kd α} {W : World} {g n : Nat} {S ok : Nat → Prop} {A : Option Addr} {ad : Addr} {xs : List α}
end
end Kd
end Go.Proofs.YteghmmkhfgkdgaaW.PrintWords
