/-
  Bytes as Lean's own words; numbers in their one form (seven bits a byte): plain lemmas, no program.
-/
import Derived.Test.YtghlnncfigkkaaaGreatDoorQNum
namespace Go.Proofs.YtghlnncfigkkaaaGreatDoor
set_option linter.unusedVariables false
set_option linter.unusedSimpArgs false
open Go.RowKit
abbrev V8 (x : UInt8) : Value := .int .u8 (x.toNat : Int)
def byteN (n : Nat) : UInt8 := UInt8.ofNat n
def numB (n : Nat) : List UInt8 := if h : n < 128 then [byteN n] else byteN (n % 128 + 128) :: numB (n / 128)
termination_by n
decreasing_by omega
def valB : List UInt8 → Nat
 | [] => 0
 | c :: r => c.toNat % 128 + 128 * valB r
attribute [irreducible] byteN
end Go.Proofs.YtghlnncfigkkaaaGreatDoor
