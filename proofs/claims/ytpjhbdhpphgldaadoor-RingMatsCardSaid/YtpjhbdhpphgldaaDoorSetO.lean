/-
  Rows of the call's own: their cells, and what becomes of them.
-/
import Derived.Test.YtpjhbdhpphgldaaDoorApp
namespace Go.Proofs.YtpjhbdhpphgldaaDoor
set_option linter.unusedVariables false
set_option linter.unusedSimpArgs false
open Go.RowKit
section
variable {w w' : World} {base cap g : Nat} {e : TypeId} {A : Option Addr} {xs : List Value}
theorem Own.some_ (h : Own w base e A cap xs) (hl : xs.length ≠ 0) : ∃ g, A = some ⟨g, 0, none⟩ ∧ base ≤ g ∧ g < w.heap.size := by
  rcases h.form with ⟨_, h2⟩ | ⟨g, cur, h1, hb, hg, _⟩
  · exact absurd (by rw [h2]; rfl) hl
  · exact ⟨g, h1, hb, (Array.getElem?_eq_some_iff.1 hg).1⟩
theorem Own.cellAt (h : Own w base e (some ⟨g, 0, none⟩) cap xs) {i : Nat} {v : Value} (hi : xs[i]? = some v) : w.cell? ⟨g, i, none⟩ = some v := by
  obtain ⟨b, o, h1, _, h2⟩ := h.rd.at_ hi
  injection h1 with h1
  injection h1 with h1 h3
  subst h1 h3
  rw [Nat.zero_add] at h2
  exact h2
theorem own_cap (h : Own w base e A cap xs) : xs.length ≤ cap ∧ cap ≤ 9223372036854775807 := by
  rcases h.2 with ⟨hv, hn⟩ | ⟨g, cap', cur, hv, hb, hg, h1, h2, _⟩
  · injection hv with a b c
    subst c
    exact ⟨by omega, by omega⟩
  · injection hv with a b c
    subst c
    simp only [maxLen] at h2
    exact ⟨h1, by omega⟩
end
theorem own_capW {w : World} {base cap : Nat} {e : TypeId} {A : Option Addr} {l : List UInt64} (h : Own w base e A cap (l.map U)) : l.length ≤ cap ∧ cap ≤ 9223372036854775807 := by
  have := own_cap h
  rwa [List.length_map] at this
theorem rd_nilU {w : World} {B : Nat} {A : Option Addr} {l : List UInt64} (h : Rd w B A (l.map U)) : A = none → l.length = 0 := by
  rintro rfl
  rcases h with h | ⟨b, o, h, _⟩
  · simpa using h
  · cases h
theorem made_grownU {w w' : World} {e : TypeId} (h : (w.alloc (.cells #[] e)).grownBy w' (blk (some ⟨w.heap.size, 0, none⟩))) : Below w.heap.size w w' :=
  ((Below.refl w.heap.size w).alloc (Nat.le_refl _) _).grown h (by simp) (fun k hk => by simp [blk] at hk; omega)
end Go.Proofs.YtpjhbdhpphgldaaDoor
