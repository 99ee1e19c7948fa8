/-
  min as the builtin says it; a text cut to a length; how many tokens a scan tells.
-/
import Derived.Test.YtcefclglmhpdeaaGreatDoorScanL
import Derived.Test.YtcefclglmhpdeaaGreatDoorCut
namespace Go.Proofs.YtcefclglmhpdeaaGreatDoor
set_option linter.unusedVariables false
set_option linter.unusedSimpArgs false
open Go.RowKit
theorem scanGo_len (s : ByteArray) : ∀ (f k : Nat) (l r : List Tok), l.length ≤ 512 → scanGo f s k l = .toks r → r.length ≤ 513 := by
  intro f
  induction f with
  | zero => intro k l r h e; unfold scanGo at e; injection e with e; subst e; omega
  | succ f ih =>
    intro k l r h e
    unfold scanGo at e
    split at e
    · split at e
      · cases e
      · split at e
        · cases e
        · rename_i hne
          exact ih _ _ _ (by rw [List.length_append]; simp; omega) e
    · injection e with e
      subst e
      rw [List.length_append]
      simp
      omega
theorem scanM_len {s : ByteArray} {r : List Tok} (h : scanM s = .toks r) : r.length ≤ 513 ∧ s.size ≤ 4096 := by
  unfold scanM at h
  split at h
  · cases h
  · exact ⟨scanGo_len _ _ _ _ _ (by simp) h, by omega⟩
theorem scanGo_code (s : ByteArray) : ∀ (f k : Nat) (l : List Tok) (c p : Nat), scanGo f s k l = .err c p → c = 120 ∨ c = 5 := by
  intro f
  induction f with
  | zero => intro k l c p e; unfold scanGo at e; cases e
  | succ f ih =>
    intro k l c p e
    unfold scanGo at e
    split at e
    · split at e
      · injection e with e1 e2; omega
      · split at e
        · injection e with e1 e2; omega
        · exact ih _ _ _ _ e
    · cases e
theorem scanM_code {s : ByteArray} {c p : Nat} (h : scanM s = .err c p) : 1 ≤ c := by
  unfold scanM at h
  split at h
  · injection h with h1 h2; omega
  · rcases scanGo_code _ _ _ _ _ _ h with rfl | rfl <;> omega
end Go.Proofs.YtcefclglmhpdeaaGreatDoor
