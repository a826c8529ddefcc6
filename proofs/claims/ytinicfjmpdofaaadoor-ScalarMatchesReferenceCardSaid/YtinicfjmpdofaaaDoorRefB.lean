/- The reference's bits, bit by bit: what they come to. No condition. -/
import Derived.Test.YtinicfjmpdofaaaDoorRefA
set_option linter.unusedVariables false
set_option linter.unusedSimpArgs false
namespace Go.Proofs.YtinicfjmpdofaaaDoor.SX
open Go Go.Ex Go.RowKit
set_option maxRecDepth 100000

def xx (a : Int) : Int := wr64 (wr64 a + wr64 (4294967296 * wr64 (bi (decide (a < 0)))))
def bitI (x : Int) (k : Nat) : Int := Int.tmod (wr64 (Int.tdiv x (2 ^ k))) 2
def bitF (f : Int → Int → Int) (x y : Int) : Nat → Int
  | 0 => 0
  | k + 1 => wr64 (bitF f x y k + wr64 (f (bitI x k) (bitI y k) * 2 ^ k))
def fA (p q : Int) : Int := wr64 (p * q)
def fO (p q : Int) : Int := if q > p then q else p
def fX (p q : Int) : Int := Int.tmod (wr64 (p + q)) 2
theorem x17 (a b : Int) : (T31 17 a b).run = some (.int .i32 (cv (bitF fA (xx a) (xx b) 32)), [], 0) := by kernel_rfl
theorem x18 (a b : Int) : (T31 18 a b).run = some (.int .i32 (cv (bitF fO (xx a) (xx b) 32)), [], 0) := by kernel_rfl
theorem x19 (a b : Int) : (T31 19 a b).run = some (.int .i32 (cv (bitF fX (xx a) (xx b) 32)), [], 0) := by kernel_rfl
end Go.Proofs.YtinicfjmpdofaaaDoor.SX
