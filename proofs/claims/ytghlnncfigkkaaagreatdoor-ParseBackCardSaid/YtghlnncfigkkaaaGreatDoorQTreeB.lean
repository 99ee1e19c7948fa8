/-
  How big a parsed tree is. The names and the shapes of a parsed tree.
-/
import Derived.Test.YtghlnncfigkkaaaGreatDoorQMin
namespace Go.Proofs.YtghlnncfigkkaaaGreatDoor
set_option linter.unusedVariables false
set_option linter.unusedSimpArgs false
open Go.RowKit
theorem loop_stay (L : List Tok) (n f : Nat) (s : PS) (h : s.err ≠ none) : parseLoopP L n f s = s := by
 cases n with
 | zero => rfl
 | succ n =>
  rw [parseLoopP]
  have : s.err.isNone = false := by cases he : s.err with | none => exact absurd he h | some _ => rfl
  rw [this]
  rfl
theorem loop_64 (L : List Tok) (f : Nat) : ∀ (n : Nat) (s : PS), s.ss.length ≤ 64 → (parseLoopP L n f s).err = none → (parseLoopP L n f s).ss.length ≤ 64 := by
 intro n
 induction n with
 | zero => intro s h _; exact h
 | succ n ih =>
  intro s h he
  rw [parseLoopP] at he ⊢
  split
  ·rename_i hc
   rw [if_pos hc] at he
   have h1 : (stmtP L f s).err = none := Classical.byContradiction fun h1 => by
    rw [loop_stay L n f _ h1] at he
    exact h1 he
   have h2 : s.ss.length ≠ 64 := fun h2 => body_full f s h2 h1
   have h3 := (stmt_i (L := L) f s).2.2.2
   exact ih _ (by omega) he
  ·exact h
theorem loop_small {F : Nat} {L : List Tok} (h : (parseP F L).err = none) : (parseP F L).ss.length ≤ 64 := loop_64 L F F startP (Nat.zero_le _) h
theorem stmt_el (L : List Tok) (f : Nat) (s : PS) (h : s.es.length ≤ s.i) (hl : s.i ≤ L.length) : (stmtP L f s).es.length ≤ (stmtP L f s).i ∧ (stmtP L f s).i ≤ L.length := by
 have g := body_G (L := L) f s
 have g2 := G.want (L := L) (bodyP L f s).1 tSemi
 have e : stmtP L f s = putS (wantP L (bodyP L f s).1 tSemi) (bodyP L f s).2 := rfl
 rw [e]
 refine ⟨?_, g2.hl (g.hl hl)⟩
 show (wantP L (bodyP L f s).1 tSemi).es.length ≤ (wantP L (bodyP L f s).1 tSemi).i
 have h1 := g.he
 have h2 := g2.he
 omega
theorem loop_el (L : List Tok) (f : Nat) : ∀ (n : Nat) (s : PS), s.es.length ≤ s.i → s.i ≤ L.length → (parseLoopP L n f s).es.length ≤ L.length := by
 intro n
 induction n with
 | zero => intro s h hl; exact Nat.le_trans h hl
 | succ n ih =>
  intro s h hl
  rw [parseLoopP]
  split
  ·have := stmt_el L f s h hl
   exact ih _ this.1 this.2
  ·exact Nat.le_trans h hl
theorem es_small (F : Nat) (L : List Tok) : (parseP F L).es.length ≤ L.length := loop_el L F F startP (Nat.zero_le _) (Nat.zero_le _)
theorem oneM_name {s : ByteArray} {k n v : Nat} (h : oneM s k = some (1, n, v)) : n ≤ 16 := by
 unfold oneM at h
 split at h
 ·split at h
  ·split at h
   ·injection h with h
    injection h with h _
    omega
   ·cases h
  ·split at h
   ·split at h
    ·injection h with h
     injection h with h1 h2
     injection h2 with h2 _
     omega
    ·cases h
   ·split at h
    ·injection h with h
     injection h with h _
     omega
    ·split at h
     ·injection h with h
      injection h with h _
      omega
     ·cases h
 ·cases h
def SmallN (l : List Tok) : Prop := ∀ t ∈ l, t.kind = 1 → t.text.size ≤ 16
theorem scanGo_names (s : ByteArray) : ∀ (f k : Nat) (l r : List Tok), SmallN l → scanGo f s k l = .toks r → SmallN r
 | 0, k, l, r, hl, h => by
  unfold scanGo at h
  injection h with h
  subst h
  exact hl
 | f + 1, k, l, r, hl, h => by
  unfold scanGo at h
  split at h
  ·split at h
   ·cases h
   ·rename_i t n v ho
    split at h
    ·cases h
    ·refine scanGo_names s f _ _ r ?_ h
     intro x hx hk
     rcases List.mem_append.1 hx with hx | hx
     ·exact hl x hx hk
     ·rw [List.mem_singleton.1 hx] at hk ⊢
      dsimp only at hk ⊢
      subst hk
      have := oneM_name ho
      rw [ByteArray.size_extract]
      omega
  ·injection h with h
   subst h
   intro x hx hk
   rcases List.mem_append.1 hx with hx | hx
   ·exact hl x hx hk
   ·rw [List.mem_singleton.1 hx] at hk
    cases hk
theorem scanM_names {s : ByteArray} {r : List Tok} (h : scanM s = .toks r) : SmallN r := by
 unfold scanM at h
 split at h
 ·cases h
 ·exact scanGo_names s _ _ [] r (fun t ht => by simp at ht) h
section
variable {L : List Tok} (hL : SmallN L) (F : Nat)
def SmSmall (F : Nat) (x : Sm) : Prop := x.name.size ≤ 16 ∧ x.shape.length ≤ F + 1
include hL
theorem now_small (s : PS) (h : (nowP L s).kind = 1) : (nowP L s).text.size ≤ 16 := by
 unfold nowP at h ⊢
 cases hn : L[s.i]? with
 | none => rw [hn] at h; cases h
 | some t =>
  rw [hn] at h
  exact hL t (List.mem_of_getElem? hn) h
theorem name_small (s : PS) : (nameP L s).2.size ≤ 16 := by
 unfold nameP
 split
 ·show noB.size ≤ 16
  decide
 ·rename_i h
  simp only [Bool.or_eq_true, not_or, bne_iff_ne, ne_eq, Decidable.not_not] at h
  exact now_small hL s h.2
omit hL
theorem shapeLoop_len : ∀ (f : Nat) (s : PS) (l : List Nat), (shapeLoopP L f s l).2.length ≤ l.length + f
 | 0, s, l => Nat.le_refl _
 | f + 1, s, l => by
  unfold shapeLoopP
  split
  ·have := shapeLoop_len f (numberP L (advP s)).1 (l ++ [(numberP L (advP s)).2])
   rw [List.length_append] at this
   simp only [List.length_singleton] at this
   show (shapeLoopP L f (numberP L (advP s)).1 (l ++ [(numberP L (advP s)).2])).2.length ≤ _
   omega
  ·show l.length ≤ _
   omega
theorem shape_len (f : Nat) (s : PS) : (shapeP L f s).2.length ≤ f + 1 := by
 unfold shapeP
 dsimp only
 split
 ·exact Nat.zero_le _
 ·have := shapeLoop_len (L := L) f (numberP L (wantP L s tBra)).1 [(numberP L (wantP L s tBra)).2]
  simp only [List.length_singleton] at this
  omega
include hL
theorem body_small (s : PS) : SmSmall F (bodyP L F s).2 := by
 unfold bodyP
 dsimp only
 split
 ·exact ⟨(by decide : noB.size ≤ 16), Nat.zero_le _⟩
 ·split
  ·exact ⟨name_small hL _, shape_len F _⟩
  ·split
   ·exact ⟨name_small hL _, Nat.zero_le _⟩
   ·split
    ·exact ⟨name_small hL _, Nat.zero_le _⟩
    ·exact ⟨(by decide : noB.size ≤ 16), Nat.zero_le _⟩
theorem loop_smallN : ∀ (n : Nat) (s : PS), (∀ x ∈ s.ss, SmSmall F x) → ∀ x ∈ (parseLoopP L n F s).ss, SmSmall F x := by
 intro n
 induction n with
 | zero => intro s h; exact h
 | succ n ih =>
  intro s h
  rw [parseLoopP]
  split
  ·refine ih _ fun x hx => ?_
   have e : stmtP L F s = putS (wantP L (bodyP L F s).1 tSemi) (bodyP L F s).2 := rfl
   have g := body_G (L := L) F s
   have g2 := G.want (L := L) (bodyP L F s).1 tSemi
   rw [e] at hx
   have hx' : x ∈ (wantP L (bodyP L F s).1 tSemi).ss ++ [(bodyP L F s).2] := hx
   rw [g2.hs, g.hs] at hx'
   rcases List.mem_append.1 hx' with hx | hx
   ·exact h x hx
   ·rw [List.mem_singleton.1 hx]
    exact body_small hL F s
  ·exact h
theorem ss_small : ∀ x ∈ (parseP F L).ss, SmSmall F x := loop_smallN hL F F startP (fun x hx => by cases hx)
end
end Go.Proofs.YtghlnncfigkkaaaGreatDoor
