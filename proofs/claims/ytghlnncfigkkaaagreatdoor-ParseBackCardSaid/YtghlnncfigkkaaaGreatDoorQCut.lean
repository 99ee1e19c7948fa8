/-
  Cuts of a slice: b[k:], as one equation; what the cut reads as.
-/
import Derived.Test.YtghlnncfigkkaaaGreatDoorQMem
import Derived.Test.YtghlnncfigkkaaaGreatDoorRows
import Derived.WalkKit
namespace Go.Proofs.YtghlnncfigkkaaaGreatDoor
set_option linter.unusedVariables false
set_option linter.unusedSimpArgs false
open Go.RowKit
def cutA (A : Option Addr) (l size m : Nat) : Option Addr := if m = l then A else A.map (·.add (l * size))
def minN (a b : Nat) : Nat := min a b
theorem minN_le (a b : Nat) : minN a b ≤ a ∧ minN a b ≤ b ∧ (minN a b = a ∨ minN a b = b) := by unfold minN; omega
theorem run_min_lit {P : Program} (w : World) (ts : Array TypeId) (t : TypeId) (a b : Nat) : (Builtin.min_ ts t #[.int .i64 (a : Int), .int .i64 (b : Int)]).run P w = .ok (.int .i64 (minN a b : Nat)) w := by
 rw [run_min_int2]
 congr 2
 unfold minN
 split <;> omega
attribute [irreducible] minN
attribute [irreducible] cutA
end Go.Proofs.YtghlnncfigkkaaaGreatDoor
