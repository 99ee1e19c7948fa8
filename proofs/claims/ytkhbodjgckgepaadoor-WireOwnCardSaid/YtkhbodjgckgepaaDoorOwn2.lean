/-
  Rows of the call's own, written in place: what the store leaves of the row and of everything else.
-/
import Derived.Test.YtkhbodjgckgepaaDoorSet
import Derived.Test.YtkhbodjgckgepaaDoorTellsL
namespace Go.Proofs.YtkhbodjgckgepaaDoor
set_option linter.unusedVariables false
set_option linter.unusedSimpArgs false
open Go.RowKit
section
variable {w w' : World} {base cap g : Nat} {e : TypeId} {A : Option Addr} {xs : List Value}
theorem Own.some_ (h : Own w base e A cap xs) (hl : xs.length ≠ 0) : ∃ g, A = some ⟨g, 0, none⟩ ∧ base ≤ g ∧ g < w.heap.size := by
  rcases h.form with ⟨_, h2⟩ | ⟨g, cur, h1, hb, hg, _⟩
  · exact absurd (by rw [h2]; rfl) hl
  · exact ⟨g, h1, hb, (Array.getElem?_eq_some_iff.1 hg).1⟩
theorem Own.cellAt (h : Own w base e (some ⟨g, 0, none⟩) cap xs) {i : Nat} {v : Value} (hi : xs[i]? = some v) : w.cell? ⟨g, i, none⟩ = some v := by
  obtain ⟨b, o, h1, _, h2⟩ := h.rd.at_ hi
  injection h1 with h1
  injection h1 with h1 h3
  subst h1 h3
  rw [Nat.zero_add] at h2
  exact h2
theorem Own.free (h : Own w base e (some ⟨g, 0, none⟩) cap xs) (i : Nat) : w.frozen? ⟨g, i, none⟩ = false := by
  rcases h.form with ⟨h1, _⟩ | ⟨g', cur, h1, hb, hg, _⟩
  · cases h1
  · injection h1 with h1
    injection h1 with h1
    subst h1
    simp [World.frozen?, hg]
theorem grownBy_set {row : Option Nat} (h : w.grownBy w' row) (i : Nat) (v : Value) (hr : row = some g) : w.grownBy (w'.setCell ⟨g, i, none⟩ v) row :=
  ⟨h.os, h.tape, h.output, by have := h.size; simpa [World.setCell] using this, fun k hk hne => by
    rw [setCell_heap_ne _ _ _ (fun e => hne (by rw [hr, e]))]
    exact h.block k hk hne⟩
theorem Rd.grown {B : Nat} {ys : List Value} {row : Option Nat} (h : Rd w B A ys) (hg : w.grownBy w' row) (hB : B ≤ w.heap.size) (hr : ∀ k, row = some k → B ≤ k) : Rd w' B A ys :=
  h.keep fun p hp => World.cell?_of_block (hg.block p.block (by omega) (fun e => by have := hr p.block e.symm; omega))
end
/-- A row that is filled: so many of its cells have been written. -/
def FillRel (w0 : World) (g base cap n : Nat) (e : TypeId) (iv : Value) (wr : World) : Prop :=
  ∃ (i : Nat) (xs : List Value), i ≤ n ∧ iv = .int .i64 i ∧ xs.length = n ∧ Own wr base e (some ⟨g, 0, none⟩) cap xs ∧ w0.grownBy wr (some g)
end Go.Proofs.YtkhbodjgckgepaaDoor
