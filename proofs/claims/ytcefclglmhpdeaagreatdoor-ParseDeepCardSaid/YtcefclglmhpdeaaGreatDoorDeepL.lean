/-
  ParseDeep's texts, and what they are parsed to. No program.
-/
import Derived.Test.YtcefclglmhpdeaaGreatDoorDeep0
import Derived.Test.YtcefclglmhpdeaaGreatDoorDeep3
namespace Go.Proofs.YtcefclglmhpdeaaGreatDoor
set_option linter.unusedVariables false
set_option linter.unusedSimpArgs false
open Go.RowKit
theorem deep_ok {n how : Nat} (hn : n < 40) (hh : how < 3) : deepOk n how = true := by
  have g : ∀ b, ((List.range 10).all fun n => (List.range 3).all fun how => deepOk (b + n) how) = true → b ≤ n → n < b + 10 → deepOk n how = true := by
    intro b h hb hb2
    rw [List.all_eq_true] at h
    have h2 := h (n - b) (List.mem_range.2 (by omega))
    rw [List.all_eq_true] at h2
    have h3 := h2 how (List.mem_range.2 hh)
    rwa [show b + (n - b) = n by omega] at h3
  by_cases h0 : n < 10
  · exact g 0 deep_part0 (Nat.zero_le _) (by omega)
  · by_cases h1 : n < 20
    · exact g 10 deep_part1 (by omega) (by omega)
    · by_cases h2 : n < 30
      · exact g 20 deep_part2 (by omega) (by omega)
      · exact g 30 deep_part3 (by omega) (by omega)
theorem aheadL_len (how i : Nat) : (aheadL how i).length ≤ 5 * i := by
  induction i with
  | zero => exact Nat.le_refl _
  | succ i ih =>
    unfold aheadL
    rw [List.length_append]
    split
    · simp; omega
    · split <;> simp <;> omega
theorem behindL_len (how i : Nat) : (behindL how i).length ≤ i := by
  induction i with
  | zero => exact Nat.le_refl _
  | succ i ih =>
    unfold behindL
    split
    · simp; omega
    · split
      · simp; omega
      · omega
theorem manyL_len (i : Nat) : (manyL i).length = 9 * i := by
  induction i with
  | zero => rfl
  | succ i ih => unfold manyL; rw [List.length_append, ih]; simp; omega
theorem deep_cases {n how : Nat} (hn : n < 40) (hh : how < 3) : ∃ l, scanM (deepB n how) = .toks l ∧ 12 * l.length + 20 ≤ 3000 ∧ ((n ≤ 32 ∧ (parseP 3000 l).err = none) ∨ (32 < n ∧ ∃ p, (parseP 3000 l).err = some (5, p))) := by
  have h := deep_ok hn hh
  unfold deepOk at h
  split at h
  · rename_i l hl
    rw [Bool.and_eq_true] at h
    refine ⟨l, hl, of_decide_eq_true h.1, ?_⟩
    have h2 := h.2
    split at h2
    · rename_i he
      exact .inl ⟨of_decide_eq_true h2, he⟩
    · rename_i c p he
      rw [Bool.and_eq_true] at h2
      have h3 := of_decide_eq_true h2.1
      subst h3
      exact .inr ⟨of_decide_eq_true h2.2, p, he⟩
  · cases h
theorem many_cases : ∃ l, scanM manyB = .toks l ∧ 12 * l.length + 20 ≤ 3000 ∧ (parseP 3000 l).err = none ∧ (parseP 3000 l).ss.length = 64 := by
  have h := many_ok
  unfold manyOk at h
  split at h
  · rename_i l hl
    rw [Bool.and_eq_true] at h
    have h2 := h.2
    split at h2
    · rename_i he
      exact ⟨l, hl, of_decide_eq_true h.1, he, of_decide_eq_true h2⟩
    · cases h2
  · cases h
theorem more_cases : ∃ l, scanM moreB = .toks l ∧ 12 * l.length + 20 ≤ 3000 ∧ (parseP 3000 l).err = some (5, 576) := by
  have h := more_ok
  unfold moreOk at h
  split at h
  · rename_i l hl
    rw [Bool.and_eq_true] at h
    have h2 := h.2
    split at h2
    · cases h2
    · rename_i c p he
      rw [Bool.and_eq_true] at h2
      have h3 := of_decide_eq_true h2.1
      have h4 := of_decide_eq_true h2.2
      subst h3 h4
      exact ⟨l, hl, of_decide_eq_true h.1, he⟩
  · cases h
end Go.Proofs.YtcefclglmhpdeaaGreatDoor
