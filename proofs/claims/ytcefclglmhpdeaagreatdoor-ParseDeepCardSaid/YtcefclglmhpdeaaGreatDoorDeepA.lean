/-
  ParseDeep's texts, and what is asked of them. No program.
-/
import Derived.Test.YtcefclglmhpdeaaGreatDoorParL
import Derived.Test.YtcefclglmhpdeaaGreatDoorScanL
namespace Go.Proofs.YtcefclglmhpdeaaGreatDoor
set_option linter.unusedVariables false
set_option linter.unusedSimpArgs false
open Go.RowKit
def aheadL (how : Nat) : Nat → List UInt8
  | 0 => []
  | i + 1 => aheadL how i ++ (if (how + i) % 3 = 0 then [40] else if (how + i) % 3 = 1 then [114, 101, 108, 117, 40] else [45])
def behindL (how : Nat) : Nat → List UInt8
  | 0 => []
  | i + 1 => if (how + i) % 3 = 0 then 41 :: behindL how i else if (how + i) % 3 = 1 then 41 :: behindL how i else behindL how i
def deepL (n how : Nat) : List UInt8 := [108, 101, 116, 32, 120, 32, 61, 32] ++ aheadL how n ++ [49] ++ behindL how n ++ [59]
def deepB (n how : Nat) : ByteArray := ⟨(deepL n how).toArray⟩
def deepOk (n how : Nat) : Bool := match scanM (deepB n how) with
  | .toks l => decide (12 * l.length + 20 ≤ 3000) && (match (parseP 3000 l).err with
    | none => decide (n ≤ 32)
    | some (c, p) => decide (c = 5) && decide (32 < n))
  | .err _ _ => false
def manyL : Nat → List UInt8
  | 0 => []
  | i + 1 => manyL i ++ [111, 117, 116, 112, 117, 116, 32, 97, 59]
def manyB : ByteArray := ⟨(manyL 64).toArray⟩
def moreB : ByteArray := ⟨(manyL 64 ++ [111, 117, 116, 112, 117, 116]).toArray⟩
def manyOk : Bool := match scanM manyB with
  | .toks l => decide (12 * l.length + 20 ≤ 3000) && (match (parseP 3000 l).err with
    | none => decide ((parseP 3000 l).ss.length = 64)
    | some _ => false)
  | .err _ _ => false
def moreOk : Bool := match scanM moreB with
  | .toks l => decide (12 * l.length + 20 ≤ 3000) && (match (parseP 3000 l).err with
    | none => false
    | some (c, p) => decide (c = 5) && decide (p = 576))
  | .err _ _ => false
end Go.Proofs.YtcefclglmhpdeaaGreatDoor
