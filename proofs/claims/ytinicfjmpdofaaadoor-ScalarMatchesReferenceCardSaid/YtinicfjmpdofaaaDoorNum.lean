/- Texts of numbers, as lists of bytes that the kernel can reckon with. No condition. -/
import Derived.Test.YtinicfjmpdofaaaDoorEx2
set_option linter.unusedSimpArgs false
set_option linter.unusedVariables false
namespace Go.Proofs.YtinicfjmpdofaaaDoor.SX
open Go Go.Ex Go.RowKit

/-- The decimal digits of a number, for numbers with at most so many. -/
def decF : Nat → Nat → List UInt8
  | 0, _ => []
  | k + 1, n => bif Nat.blt n 10 then [UInt8.ofNat (48 + n)] else decF k (n / 10) ++ [UInt8.ofNat (48 + n % 10)]
def itoaL (n : Int) : List UInt8 := match n with
  | .ofNat m => decF 20 m
  | .negSucc m => 45 :: decF 20 (m + 1)
/-- The digits of r / 65536. -/
def fracF : Nat → Nat → List UInt8
  | 0, _ => []
  | k + 1, r => UInt8.ofNat (48 + r * 10 / 65536) :: (bif Nat.beq (r * 10 % 65536) 0 then [] else fracF k (r * 10 % 65536))
def fixN (m : Nat) : List UInt8 := decF 20 (m / 65536) ++ 46 :: fracF 17 (m % 65536)
def fixL (n : Int) : List UInt8 := match n with
  | .ofNat m => fixN m
  | .negSucc m => 45 :: fixN (m + 1)
/-- A part ahead of the first byte of a kind, and whether there is one. -/
def cutL (c : UInt8) : List UInt8 → List UInt8 × List UInt8 × Bool
  | [] => ([], [], false)
  | x :: l => bif Nat.beq x.toNat c.toNat then ([], l, true) else ((x :: (cutL c l).1), (cutL c l).2.1, (cutL c l).2.2)
def strL (l : List UInt8) : V := .str ⟨⟨l⟩⟩
end Go.Proofs.YtinicfjmpdofaaaDoor.SX
