/- The reference's operators for two values: what they compute. No condition. -/
import Derived.Test.YtinicfjmpdofaaaDoorRefC
set_option linter.unusedVariables false
set_option linter.unusedSimpArgs false
namespace Go.Proofs.YtinicfjmpdofaaaDoor.SX
open Go Go.Ex Go.RowKit
set_option maxRecDepth 100000

def G45 (n : Int) : Bool := decide (0 ≤ n) && decide (n ≤ 32)
def sh (b : Int) : Int := Int.tmod (wr64 (Int.tmod (wr64 b) 32 + 32)) 32
def FLr (x y : Int) : Option (V × Mem × Nat) := bif y == 0 then none else bif y == 0 then none else bif decide (Int.tmod x y < 0) then rv (cv (wr64 (wr64 (Int.tdiv x y) - 1))) 0 else rv (cv (wr64 (Int.tdiv x y))) 0
theorem y10 (a b : Int) : (T15 10 a b).run = rv (cv (wr64 (wr64 a + wr64 b))) 0 := by kernel_rfl
theorem y11 (a b : Int) : (T15 11 a b).run = rv (cv (wr64 (wr64 a - wr64 b))) 0 := by kernel_rfl
theorem y12 (a b : Int) : (T15 12 a b).run = rv (cv (wr64 (wr64 a * wr64 b))) 0 := by kernel_rfl
theorem y13 (a b : Int) : (T15 13 a b).run = bif wr64 b == 0 then rv (cv 0) 0 else bif wr64 b == 0 then none else rv (cv (wr64 (Int.tdiv (wr64 a) (wr64 b)))) 0 := by kernel_rfl
theorem y14 (a b : Int) : (T15 14 a b).run = bif wr64 b == 0 then rv (cv (wr64 (wr64 a - wr64 (wr64 b * 0)))) 0 else bif wr64 b == 0 then none else rv (cv (wr64 (wr64 a - wr64 (wr64 b * wr64 (Int.tdiv (wr64 a) (wr64 b)))))) 0 := by kernel_rfl
theorem y15 (a b : Int) : (T15 15 a b).run = FLr (wr64 (wr64 a * wr64 b)) 65536 := by kernel_rfl
theorem y16 (a b : Int) : (T15 16 a b).run = bif wr64 b == 0 then rv (cv 0) 0 else bif decide (wr64 b < 0) then FLr (wr64 (0 - wr64 (65536 * wr64 a))) (wr64 (0 - wr64 b)) else FLr (wr64 (65536 * wr64 a)) (wr64 b) := by kernel_rfl
theorem y17 (a b : Int) : (T15 17 a b).run = bif G31 17 a b then rv (bit3 17 a b) 0 else none := by kernel_rfl
theorem y18 (a b : Int) : (T15 18 a b).run = bif G31 18 a b then rv (bit3 18 a b) 0 else none := by kernel_rfl
theorem y19 (a b : Int) : (T15 19 a b).run = bif G31 19 a b then rv (bit3 19 a b) 0 else none := by kernel_rfl
theorem y20 (a b : Int) : (T15 20 a b).run = bif G45 (sh b) then rv (cv (wr64 (wr64 a * 2 ^ (sh b).toNat))) 0 else none := by kernel_rfl
theorem y21 (a b : Int) : (T15 21 a b).run = bif G45 (sh b) then FLr (wr64 a) (2 ^ (sh b).toNat) else none := by kernel_rfl
theorem y22 (a b : Int) : (T15 22 a b).run = rv (cv (if wr64 b < wr64 a then wr64 b else wr64 a)) 0 := by kernel_rfl
theorem y23 (a b : Int) : (T15 23 a b).run = rv (cv (if wr64 b > wr64 a then wr64 b else wr64 a)) 0 := by kernel_rfl
theorem y24 (a b : Int) : (T15 24 a b).run = rv (bi (wr64 a == wr64 b)) 0 := by kernel_rfl
theorem y25 (a b : Int) : (T15 25 a b).run = rv (bi (wr64 a != wr64 b)) 0 := by kernel_rfl
theorem y26 (a b : Int) : (T15 26 a b).run = rv (bi (decide (wr64 a < wr64 b))) 0 := by kernel_rfl
theorem y27 (a b : Int) : (T15 27 a b).run = rv (bi (decide (wr64 a ≤ wr64 b))) 0 := by kernel_rfl
theorem y28 (a b : Int) : (T15 28 a b).run = rv (bi (decide (wr64 a > wr64 b))) 0 := by kernel_rfl
theorem y29 (a b : Int) : (T15 29 a b).run = rv (bi (decide (wr64 a ≥ wr64 b))) 0 := by kernel_rfl
end Go.Proofs.YtinicfjmpdofaaaDoor.SX
