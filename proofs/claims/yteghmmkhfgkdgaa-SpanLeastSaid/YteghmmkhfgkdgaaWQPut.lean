-- Words that the printed walks of this seat use, cut down to what they use (prune.py).
import Derived.Test.YteghmmkhfgkdgaaWWords
import Derived.Test.YteghmmkhfgkdgaaWLast
namespace Go.Proofs.YteghmmkhfgkdgaaW.PrintWords
open Go.RowKit
namespace Kd
section
variable {α : Type} {d : Kd α} {e base g o n cap : Nat} {ok okp : Nat → Prop} {w W : World} {v : Value} {xs : List α}
end
section
variable {α : Type} {enc : α → Value} {h1 : ∀ x, (enc x).oneCell' = true} {e base g o n cap : Nat} {ok : Nat → Prop} {W : World} {xs : List α}
end
end Kd
end Go.Proofs.YteghmmkhfgkdgaaW.PrintWords
