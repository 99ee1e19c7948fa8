/-
  Numbers of the kind u64 as Lean's own words: plain lemmas, no program. The operations are kept behind irreducible names, so that a walk does not open them.
-/
import Derived.WalkKit
import Derived.WalkSpells
import Derived.WalkLawsBesides
import Derived.OpenShut
namespace Go.Proofs.YtghlnncfigkkaaaGreatDoor
set_option linter.unusedVariables false
set_option linter.unusedSimpArgs false
open Go.RowKit
def addW (x y : UInt64) : UInt64 := x + y
def subW (x y : UInt64) : UInt64 := x - y
def mulW (x y : UInt64) : UInt64 := x * y
def negW (x : UInt64) : UInt64 := -x
def xorW (x y : UInt64) : UInt64 := x ^^^ y
def andW (x y : UInt64) : UInt64 := x &&& y
def orW (x y : UInt64) : UInt64 := x ||| y
def shlW (x n : UInt64) : UInt64 := x <<< n
def shrW (x n : UInt64) : UInt64 := x >>> n
def ltW (x y : UInt64) : Bool := decide (x < y)
def up63 (x : UInt64) : UInt64 := x + 9223372036854775808
theorem wrapN (n : Int) : IntKind.u64.wrap n = n % 18446744073709551616 := by
 simp [IntKind.wrap, IntKind.bits, IntKind.signed]
def sI (x : UInt64) : Int := x.toBitVec.toInt
def sarW (x : UInt64) (k : Nat) : UInt64 := ⟨x.toBitVec.sshiftRight k⟩
def sltW (x y : UInt64) : Bool := decide (sI x < sI y)
def mul63 (x : UInt64) : UInt64 := x * 9223372036854775808
attribute [irreducible] mul63
attribute [irreducible] sI sarW sltW
attribute [irreducible] addW subW mulW negW xorW andW orW shlW shrW ltW up63
end Go.Proofs.YtghlnncfigkkaaaGreatDoor
