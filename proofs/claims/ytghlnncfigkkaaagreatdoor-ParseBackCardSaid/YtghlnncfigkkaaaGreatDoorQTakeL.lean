/-
  The number at the front of bytes: plain lemmas, no program. Bytes as a string: the conversion's law, and how strings are held against each other.
-/
import Derived.Test.YtghlnncfigkkaaaGreatDoorQMem
import Derived.Test.YtghlnncfigkkaaaGreatDoorQByt
import Derived.Test.YtghlnncfigkkaaaGreatDoorRows
import Derived.Laws.BytesArg
namespace Go.Proofs.YtghlnncfigkkaaaGreatDoor
set_option linter.unusedVariables false
set_option linter.unusedSimpArgs false
open Go.RowKit
def nthB (l : List UInt8) (k : Nat) : UInt8 := l.getD k 0
theorem nthB_pos (l : List UInt8) {k : Nat} (h : k < l.length) : nthB l k = l[k] := by
 unfold nthB; rw [List.getD_eq_getElem?_getD, List.getElem?_eq_getElem h]; rfl
theorem nthB_map (l : List UInt8) {k : Nat} (h : k < l.length) : (l.map V8)[k]? = some (V8 (nthB l k)) := by
 rw [List.getElem?_map, List.getElem?_eq_getElem h, nthB_pos l h]; rfl
def contB : Nat → List UInt8 → Nat
 | 0, _ => 0
 | _ + 1, [] => 0
 | f + 1, c :: r => if 128 ≤ c.toNat then contB f r + 1 else 0
def takeB (l : List UInt8) : Nat × Nat :=
 if contB 5 l = l.length ∨ contB 5 l = 5 then (0, 0)
 else if 4294967295 < valB (l.take (contB 5 l + 1)) ∨ numB (valB (l.take (contB 5 l + 1))) ≠ l.take (contB 5 l + 1) then (0, 0)
 else (valB (l.take (contB 5 l + 1)), contB 5 l + 1)
attribute [irreducible] nthB takeB
def strB (l : List UInt8) : ByteArray := ⟨l.toArray⟩
theorem strB_size (l : List UInt8) : (strB l).size = l.length := by unfold strB; simp [ByteArray.size]
theorem strB_data (l : List UInt8) : (strB l).data.toList = l := by unfold strB; rfl
theorem conv_bytes (A : Option Addr) (c n : Nat) (l : List UInt8) (B : Nat) (w : World) (hn : l.length = n) (hA : Rd w B A (l.map V8)) :
  (convert 162 9 (.slice A n c)).run Tryz.prog w = .ok (.string (strB l)) w := by
 subst hn
 rcases hA with h | ⟨b, o, rfl, hb, hc⟩
 ·have : l = [] := by simpa using h
  subst this
  cases A with
  | none =>
   rw [run_convert_bytes_nil w 162 5 Tryz.underlying162 Tryz.underlying5 _ _ 9 Tryz.underlying9]
   rfl
  | some a =>
   rw [List.length_nil, run_convert_bytes_string w 162 9 5 (some a) 0 c Tryz.underlying162 Tryz.underlying5 Tryz.underlying9,
    run_bytesToString w a 0 c [] (by simp [loadCells, loadCellsFrom])]
   rfl
 ·have h := run_convert_bytes_arg (P := Tryz.prog) w 162 5 Tryz.underlying162 Tryz.underlying5 b o l.length c (l.map fun x => (x.toNat : Int)) (by simp) (fun i hi => by
   rw [hc i _ (nthB_map l hi), List.getD_eq_getElem?_getD, List.getElem?_map, List.getElem?_eq_getElem hi, nthB_pos l hi, Option.map_some, Option.getD_some]) 9 Tryz.underlying9
  rw [h]
  have e : ((fun n : Int => UInt8.ofNat n.toNat) ∘ fun x : UInt8 => (x.toNat : Int)) = id := by
   funext x
   simp
  have e2 : (l.map fun x : UInt8 => (x.toNat : Int)).map (fun n : Int => UInt8.ofNat n.toNat) = l := by rw [List.map_map, e, List.map_id]
  have : strOfNums (l.map fun x => (x.toNat : Int)) = strB l := by
   unfold strOfNums strB
   rw [e2]
  rw [this]
attribute [irreducible] strB
end Go.Proofs.YtghlnncfigkkaaaGreatDoor
