/-
  How big a parsed tree is.
-/
import Derived.Test.YtghlnncfigkkaaaGreatDoorQMin
namespace Go.Proofs.YtghlnncfigkkaaaGreatDoor
set_option linter.unusedVariables false
set_option linter.unusedSimpArgs false
open Go.RowKit
theorem loop_stay (L : List Tok) (n f : Nat) (s : PS) (h : s.err ≠ none) : parseLoopP L n f s = s := by
  cases n with
  | zero => rfl
  | succ n =>
    rw [parseLoopP]
    have : s.err.isNone = false := by cases he : s.err with | none => exact absurd he h | some _ => rfl
    rw [this]
    rfl
theorem loop_64 (L : List Tok) (f : Nat) : ∀ (n : Nat) (s : PS), s.ss.length ≤ 64 → (parseLoopP L n f s).err = none → (parseLoopP L n f s).ss.length ≤ 64 := by
  intro n
  induction n with
  | zero => intro s h _; exact h
  | succ n ih =>
    intro s h he
    rw [parseLoopP] at he ⊢
    split
    · rename_i hc
      rw [if_pos hc] at he
      have h1 : (stmtP L f s).err = none := Classical.byContradiction fun h1 => by
        rw [loop_stay L n f _ h1] at he
        exact h1 he
      have h2 : s.ss.length ≠ 64 := fun h2 => body_full f s h2 h1
      have h3 := (stmt_i (L := L) f s).2.2.2
      exact ih _ (by omega) he
    · exact h
theorem loop_small {F : Nat} {L : List Tok} (h : (parseP F L).err = none) : (parseP F L).ss.length ≤ 64 := loop_64 L F F startP (Nat.zero_le _) h
theorem stmt_el (L : List Tok) (f : Nat) (s : PS) (h : s.es.length ≤ s.i) (hl : s.i ≤ L.length) : (stmtP L f s).es.length ≤ (stmtP L f s).i ∧ (stmtP L f s).i ≤ L.length := by
  have g := body_G (L := L) f s
  have g2 := G.want (L := L) (bodyP L f s).1 tSemi
  have e : stmtP L f s = putS (wantP L (bodyP L f s).1 tSemi) (bodyP L f s).2 := rfl
  rw [e]
  refine ⟨?_, g2.hl (g.hl hl)⟩
  show (wantP L (bodyP L f s).1 tSemi).es.length ≤ (wantP L (bodyP L f s).1 tSemi).i
  have h1 := g.he
  have h2 := g2.he
  omega
theorem loop_el (L : List Tok) (f : Nat) : ∀ (n : Nat) (s : PS), s.es.length ≤ s.i → s.i ≤ L.length → (parseLoopP L n f s).es.length ≤ L.length := by
  intro n
  induction n with
  | zero => intro s h hl; exact Nat.le_trans h hl
  | succ n ih =>
    intro s h hl
    rw [parseLoopP]
    split
    · have := stmt_el L f s h hl
      exact ih _ this.1 this.2
    · exact Nat.le_trans h hl
theorem es_small (F : Nat) (L : List Tok) : (parseP F L).es.length ≤ L.length := loop_el L F F startP (Nat.zero_le _) (Nat.zero_le _)
end Go.Proofs.YtghlnncfigkkaaaGreatDoor
