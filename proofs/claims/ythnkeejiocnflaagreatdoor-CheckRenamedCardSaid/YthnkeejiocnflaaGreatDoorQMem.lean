/-
  Words for memory: a slice that reads as a list; a block that is known whole; a law's arguments.
-/
import Derived.Test.YthnkeejiocnflaaGreatDoorQNum
import Derived.Lib.Hide
import Derived.Deep.Draws
import Derived.Laws.OwnMore
namespace Go.Proofs.YthnkeejiocnflaaGreatDoor
set_option linter.unusedVariables false
set_option linter.unusedSimpArgs false
open Go.RowKit

/-- The slice with address A reads as the cells xs, which lie below block B. -/
def Rd (w : World) (B : Nat) (A : Option Addr) (xs : List Value) : Prop :=
  xs = [] ∨ ∃ b o, A = some ⟨b, o, none⟩ ∧ b < B ∧ ∀ (j : Nat) (v : Value), xs[j]? = some v → w.cell? ⟨b, o + j, none⟩ = some v

section
variable {w w' : World} {B B' : Nat} {A : Option Addr} {xs : List Value}
theorem Rd.nil (w : World) (B : Nat) (A : Option Addr) : Rd w B A [] := .inl rfl
theorem Rd.keep (h : Rd w B A xs) (hk : ∀ p : Addr, p.block < B → w'.cell? p = w.cell? p) : Rd w' B A xs := by
  rcases h with h | ⟨b, o, hA, hb, hc⟩
  · exact .inl h
  · exact .inr ⟨b, o, hA, hb, fun j v hv => (hk ⟨b, o + j, none⟩ hb).trans (hc j v hv)⟩
theorem Rd.more (h : Rd w B A xs) (hB : B ≤ B') : Rd w B' A xs := by
  rcases h with h | ⟨b, o, hA, hb, hc⟩
  · exact .inl h
  · exact .inr ⟨b, o, hA, Nat.lt_of_lt_of_le hb hB, hc⟩
theorem Rd.below (h : Rd w B A xs) (hb : Below B w w') : Rd w' B A xs := h.keep fun _ hp => hb.cell hp
theorem Rd.drew (h : Rd w B A xs) : Rd w.drew B A xs := h
theorem Rd.drewN (h : Rd w B A xs) (k : Nat) : Rd (w.drewN k) B A xs := h
theorem Rd.alloc (h : Rd w B A xs) (hB : B ≤ w.heap.size) (o : Obj) : Rd (w.alloc o) B A xs := h.keep fun p hp => World.cell?_alloc_lt w o p (Nat.lt_of_lt_of_le hp hB)
theorem Rd.at_ (h : Rd w B A xs) {k : Nat} {v : Value} (hk : xs[k]? = some v) : ∃ b o, A = some ⟨b, o, none⟩ ∧ b < B ∧ w.cell? ⟨b, o + k, none⟩ = some v := by
  rcases h with rfl | ⟨b, o, hA, hb, hc⟩
  · simp at hk
  · exact ⟨b, o, hA, hb, hc k v hk⟩
theorem Rd.of_block {g : Nat} {cs : Array Value} {t : TypeId} (h : w.heap[g]? = some (.cells cs t (0, 0))) (hg : g < B) {l : List Value} (hl : l <+: cs.toList) : Rd w B (some ⟨g, 0, none⟩) l := by
  refine .inr ⟨g, 0, rfl, hg, fun j v hv => ?_⟩
  rw [Nat.zero_add, cell_of_row w g j cs t (0, 0) h]
  obtain ⟨r, hr⟩ := hl
  have : cs.toList[j]? = some v := by rw [← hr, List.getElem?_append_left (List.getElem?_eq_some_iff.1 hv).1]; exact hv
  simpa using this
theorem Rd.take (h : Rd w B A xs) (n : Nat) : Rd w B A (xs.take n) := by
  rcases h with rfl | ⟨b, o, hA, hb, hc⟩
  · exact .inl (by simp)
  · refine .inr ⟨b, o, hA, hb, fun j v hv => hc j v ?_⟩
    rw [List.getElem?_take] at hv
    split at hv
    · exact hv
    · cases hv
end

/-! ### Lists of words -/
def nthW (l : List UInt64) (k : Nat) : UInt64 := l.getD k 0
theorem nthW_map (l : List UInt64) {k : Nat} (h : k < l.length) : (l.map U)[k]? = some (U (nthW l k)) := by
  rw [List.getElem?_map, List.getElem?_eq_getElem h]
  simp [nthW, List.getD_eq_getElem?_getD, List.getElem?_eq_getElem h]
theorem Rd.word {w : World} {B : Nat} {A : Option Addr} {l : List UInt64} (h : Rd w B A (l.map U)) {k : Nat} (hk : k < l.length) :
    ∃ b o, A = some ⟨b, o, none⟩ ∧ b < B ∧ w.cell? ⟨b, o + k, none⟩ = some (U (nthW l k)) := h.at_ (nthW_map l hk)
/-- A block that holds just these words. -/
def BlkW (w : World) (t : TypeId) (g : Nat) (l : List UInt64) : Prop := w.heap[g]? = some (.cells (l.map U).toArray t (0, 0))
section
variable {w w' : World} {t : TypeId} {g : Nat} {l : List UInt64}
theorem BlkW.lt (h : BlkW w t g l) : g < w.heap.size := (Array.getElem?_eq_some_iff.1 h).1
theorem BlkW.cell (h : BlkW w t g l) {k : Nat} (hk : k < l.length) : w.cell? ⟨g, k, none⟩ = some (U (nthW l k)) := by
  rw [cell_of_row w g k _ t (0, 0) h, List.getElem?_toArray, nthW_map l hk]
theorem BlkW.free (h : BlkW w t g l) (k : Nat) : w.frozen? ⟨g, k, none⟩ = false := by
  unfold BlkW at h
  simp [World.frozen?, h]
theorem BlkW.set (h : BlkW w t g l) (k : Nat) (x : UInt64) : BlkW (w.setCell ⟨g, k, none⟩ (U x)) t g (l.set k x) := by
  unfold BlkW at h ⊢
  simp [World.setCell, Array.getElem?_modify, h]
theorem BlkW.drew (h : BlkW w t g l) : BlkW w.drew t g l := h
theorem BlkW.drewN (h : BlkW w t g l) (n : Nat) : BlkW (w.drewN n) t g l := h
theorem BlkW.below {B : Nat} (h : BlkW w t g l) (hb : Below B w w') (hg : g < B) : BlkW w' t g l := (hb.block g hg).trans h
theorem BlkW.alloc (h : BlkW w t g l) (o : Obj) : BlkW (w.alloc o) t g l := (Below.heap_alloc w o g h.lt).trans h
theorem BlkW.rd (h : BlkW w t g l) {B : Nat} (hg : g < B) : Rd w B (some ⟨g, 0, none⟩) (l.map U) := Rd.of_block h hg (by simp)
end
attribute [irreducible] nthW
theorem nthW_eq (l : List UInt64) (k : Nat) : nthW l k = l.getD k 0 := by unfold nthW; rfl
/-! ### From one call to the next -/
theorem Rd.next {w w' : World} {A : Option Addr} {xs : List Value} (h : Rd w w.heap.size A xs) (hb : Below w.heap.size w w') : Rd w' w'.heap.size A xs := (h.below hb).more hb.size
theorem BlkW.next {w w' : World} {t : TypeId} {g : Nat} {l : List UInt64} (h : BlkW w t g l) (hb : Below w.heap.size w w') : BlkW w' t g l := h.below hb h.lt
theorem BlkW.rdn {w : World} {t : TypeId} {g : Nat} {l : List UInt64} (h : BlkW w t g l) : Rd w w.heap.size (some ⟨g, 0, none⟩) (l.map U) := h.rd h.lt
theorem bnext {W w w' : World} (h : Below W.heap.size W w) (hb : Below w.heap.size w w') : Below W.heap.size W w' := h.trans (hb.mono h.size)
theorem below_drewN {B : Nat} {a w : World} (h : Below B a w) (n : Nat) : Below B a (w.drewN n) := ⟨h.os, h.tape, h.output, h.size, h.block⟩
/-- What 'Below' says of old cells, for a walk. -/
theorem bcell {W w1 : World} {B : Nat} (hb : Below B W w1) : (∀ b o, b < B → w1.cell? ⟨b, o, none⟩ = W.cell? ⟨b, o, none⟩) ∧ (∀ b o, b < B → w1.frozen? ⟨b, o, none⟩ = W.frozen? ⟨b, o, none⟩) :=
  ⟨fun b o h => hb.cell (p := ⟨b, o, none⟩) h, fun b o h => hb.frozen (p := ⟨b, o, none⟩) h⟩
end Go.Proofs.YthnkeejiocnflaaGreatDoor
