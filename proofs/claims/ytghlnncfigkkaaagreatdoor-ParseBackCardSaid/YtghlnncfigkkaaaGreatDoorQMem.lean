/-
  Words for memory: a slice that reads as a list; a block that is known whole; a law's arguments.
-/
import Derived.Test.YtghlnncfigkkaaaGreatDoorQNum
import Derived.Lib.Hide
import Derived.Deep.Draws
import Derived.Laws.OwnMore
namespace Go.Proofs.YtghlnncfigkkaaaGreatDoor
set_option linter.unusedVariables false
set_option linter.unusedSimpArgs false
open Go.RowKit
def Rd (w : World) (B : Nat) (A : Option Addr) (xs : List Value) : Prop :=
 xs = [] ∨ ∃ b o, A = some ⟨b, o, none⟩ ∧ b < B ∧ ∀ (j : Nat) (v : Value), xs[j]? = some v → w.cell? ⟨b, o + j, none⟩ = some v
section
variable {w w' : World} {B B' : Nat} {A : Option Addr} {xs : List Value}
theorem Rd.nil (w : World) (B : Nat) (A : Option Addr) : Rd w B A [] := .inl rfl
theorem Rd.keep (h : Rd w B A xs) (hk : ∀ p : Addr, p.block < B → w'.cell? p = w.cell? p) : Rd w' B A xs := by
 rcases h with h | ⟨b, o, hA, hb, hc⟩
 ·exact .inl h
 ·exact .inr ⟨b, o, hA, hb, fun j v hv => (hk ⟨b, o + j, none⟩ hb).trans (hc j v hv)⟩
theorem Rd.more (h : Rd w B A xs) (hB : B ≤ B') : Rd w B' A xs := by
 rcases h with h | ⟨b, o, hA, hb, hc⟩
 ·exact .inl h
 ·exact .inr ⟨b, o, hA, Nat.lt_of_lt_of_le hb hB, hc⟩
theorem Rd.below (h : Rd w B A xs) (hb : Below B w w') : Rd w' B A xs := h.keep fun _ hp => hb.cell hp
theorem Rd.at_ (h : Rd w B A xs) {k : Nat} {v : Value} (hk : xs[k]? = some v) : ∃ b o, A = some ⟨b, o, none⟩ ∧ b < B ∧ w.cell? ⟨b, o + k, none⟩ = some v := by
 rcases h with rfl | ⟨b, o, hA, hb, hc⟩
 ·simp at hk
 ·exact ⟨b, o, hA, hb, hc k v hk⟩
theorem Rd.of_block {g : Nat} {cs : Array Value} {t : TypeId} (h : w.heap[g]? = some (.cells cs t (0, 0))) (hg : g < B) {l : List Value} (hl : l <+: cs.toList) : Rd w B (some ⟨g, 0, none⟩) l := by
 refine .inr ⟨g, 0, rfl, hg, fun j v hv => ?_⟩
 rw [Nat.zero_add, cell_of_row w g j cs t (0, 0) h]
 obtain ⟨r, hr⟩ := hl
 have : cs.toList[j]? = some v := by rw [← hr, List.getElem?_append_left (List.getElem?_eq_some_iff.1 hv).1]; exact hv
 simpa using this
end
def nthW (l : List UInt64) (k : Nat) : UInt64 := l.getD k 0
section
variable {w w' : World} {t : TypeId} {g : Nat} {l : List UInt64}
end
attribute [irreducible] nthW
theorem Rd.next {w w' : World} {A : Option Addr} {xs : List Value} (h : Rd w w.heap.size A xs) (hb : Below w.heap.size w w') : Rd w' w'.heap.size A xs := (h.below hb).more hb.size
theorem bnext {W w w' : World} (h : Below W.heap.size W w) (hb : Below w.heap.size w w') : Below W.heap.size W w' := h.trans (hb.mono h.size)
theorem below_drewN {B : Nat} {a w : World} (h : Below B a w) (n : Nat) : Below B a (w.drewN n) := ⟨h.os, h.tape, h.output, h.size, h.block⟩
end Go.Proofs.YtghlnncfigkkaaaGreatDoor
