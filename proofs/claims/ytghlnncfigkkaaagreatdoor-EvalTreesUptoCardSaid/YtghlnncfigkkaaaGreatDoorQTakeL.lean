/-
  The number at the front of bytes: plain lemmas, no program. Bytes as a string: the conversion's law, and how strings are held against each other.
-/
import Derived.Test.YtghlnncfigkkaaaGreatDoorQNum
import Derived.Test.YtghlnncfigkkaaaGreatDoorRows
import Derived.Laws.BytesArg
namespace Go.Proofs.YtghlnncfigkkaaaGreatDoor
set_option linter.unusedVariables false
set_option linter.unusedSimpArgs false
open Go.RowKit
def nthB (l:List UInt8) (k:Nat):UInt8:=l.getD k 0
def contB:Nat→List UInt8→Nat
 | 0,_=>0
 | _+1,[]=>0
 | f+1,c::r=>if 128≤c.toNat then contB f r+1 else 0
def takeB (l:List UInt8):Nat × Nat:=
 if contB 5 l=l.length∨contB 5 l=5 then (0,0)
 else if 4294967295<valB (l.take (contB 5 l+1))∨numB (valB (l.take (contB 5 l+1)))≠l.take (contB 5 l+1) then (0,0)
 else (valB (l.take (contB 5 l+1)),contB 5 l+1)
attribute [irreducible] nthB takeB
def strB (l:List UInt8):ByteArray:=⟨l.toArray⟩
attribute [irreducible] strB
end Go.Proofs.YtghlnncfigkkaaaGreatDoor
