/-
  The one package-level variable that errors.As reads holds what the program's text lays.
-/
import Derived.Test.YtpjhbdhpphgldaaDoorAsE
namespace Go.Proofs.YtpjhbdhpphgldaaDoor
set_option linter.unusedVariables false
open Go.RowKit
def ETyped (w : World) : Prop := w.cell? ⟨0, 0, none⟩ = some ETy
theorem ETyped.lt {w : World} (h : ETyped w) : 0 < w.heap.size := World.block_lt_of_cell? w _ h
theorem ETyped.next {w w' : World} (h : ETyped w) (hb : Below w.heap.size w w') : ETyped w' := (hb.cell (p := ⟨0, 0, none⟩) h.lt).trans h
end Go.Proofs.YtpjhbdhpphgldaaDoor
