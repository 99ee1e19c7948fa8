/-
  The product of two matrices as lists of words, filled in cell by cell: plain lemmas, no program.
-/
import Derived.Test.YtpjhbdhpphgldaaDoorMem
namespace Go.Proofs.YtpjhbdhpphgldaaDoor
set_option linter.unusedVariables false
set_option linter.unusedSimpArgs false
open Go.RowKit

/-- Lists of words: a change at one place. -/
theorem nthW_oob (l : List UInt64) {k : Nat} (h : l.length ≤ k) : nthW l k = 0 := by
  rw [nthW_eq, List.getD_eq_getElem?_getD, List.getElem?_eq_none h]; rfl
theorem extW {l l' : List UInt64} (hl : l.length = l'.length) (h : ∀ k, k < l.length → nthW l k = nthW l' k) : l = l' := by
  apply List.ext_getElem hl
  intro i h1 h2
  have := h i h1
  rw [nthW_eq, nthW_eq, List.getD_eq_getElem?_getD, List.getD_eq_getElem?_getD, List.getElem?_eq_getElem h1, List.getElem?_eq_getElem h2] at this
  exact this
theorem nthW_range (n : Nat) (f : Nat → UInt64) {k : Nat} (h : k < n) : nthW ((List.range n).map f) k = f k := by
  rw [nthW_eq, List.getD_eq_getElem?_getD, List.getElem?_map, List.getElem?_range h]; rfl
theorem nthW_set_same (l : List UInt64) (k : Nat) (x : UInt64) (h : k < l.length) : nthW (l.set k x) k = x := by
  rw [nthW_eq, List.getD_eq_getElem?_getD, List.getElem?_set_self h]; rfl
theorem nthW_set_other (l : List UInt64) {j k : Nat} (x : UInt64) (h : j ≠ k) : nthW (l.set k x) j = nthW l j := by
  rw [nthW_eq, nthW_eq, List.getD_eq_getElem?_getD, List.getD_eq_getElem?_getD, List.getElem?_set_ne (Ne.symm h)]

def zerosW (n : Nat) : List UInt64 := List.replicate n 0
theorem length_zerosW (n : Nat) : (zerosW n).length = n := by unfold zerosW; simp
theorem nthW_zeros (n k : Nat) : nthW (zerosW n) k = 0 := by
  unfold zerosW
  rw [nthW_eq, List.getD_eq_getElem?_getD, List.getElem?_replicate]
  split <;> rfl
attribute [irreducible] zerosW

def dotW (xs ys : List UInt64) (k n p : Nat) : Nat → UInt64
  | 0 => 0
  | t + 1 => addW (dotW xs ys k n p t) (mulW (nthW xs (p / n * k + t)) (nthW ys (t * n + p % n)))
/-- The product, when r cells are done and t summands of the next. -/
def stW (xs ys : List UInt64) (m k n r t : Nat) : List UInt64 :=
  (List.range (m * n)).map fun p => if p < r then dotW xs ys k n p k else if p = r then dotW xs ys k n p t else 0
def matW (xs ys : List UInt64) (m k n : Nat) : List UInt64 := (List.range (m * n)).map fun p => dotW xs ys k n p k
theorem length_stW (xs ys : List UInt64) (m k n r t : Nat) : (stW xs ys m k n r t).length = m * n := by unfold stW; simp
theorem length_matW (xs ys : List UInt64) (m k n : Nat) : (matW xs ys m k n).length = m * n := by unfold matW; simp
theorem nthW_matW (xs ys : List UInt64) (m k n : Nat) {p : Nat} (h : p < m * n) : nthW (matW xs ys m k n) p = dotW xs ys k n p k := nthW_range _ _ h
theorem stW_start (xs ys : List UInt64) (m k n : Nat) : zerosW (m * n) = stW xs ys m k n 0 0 := by
  apply extW (by rw [length_zerosW, length_stW])
  intro p hp
  rw [length_zerosW] at hp
  unfold stW
  rw [nthW_zeros, nthW_range _ _ hp]
  by_cases h : p = 0 <;> simp [h, dotW]
theorem stW_here (xs ys : List UInt64) (m k n r t : Nat) (h : r < m * n) : nthW (stW xs ys m k n r t) r = dotW xs ys k n r t := by
  unfold stW; rw [nthW_range _ _ h]; simp
theorem stW_step (xs ys : List UInt64) (m k n r t : Nat) (_h : r < m * n) :
    (stW xs ys m k n r t).set r (addW (dotW xs ys k n r t) (mulW (nthW xs (r / n * k + t)) (nthW ys (t * n + r % n)))) = stW xs ys m k n r (t + 1) := by
  apply extW (by rw [List.length_set, length_stW, length_stW])
  intro p hp
  rw [List.length_set, length_stW] at hp
  by_cases hpr : p = r
  · subst hpr
    rw [nthW_set_same _ _ _ (by rw [length_stW]; exact hp), stW_here _ _ _ _ _ _ _ hp]
    rfl
  · rw [nthW_set_other _ _ hpr]
    unfold stW
    rw [nthW_range _ _ hp, nthW_range _ _ hp]
    simp [hpr]
theorem stW_full (xs ys : List UInt64) (m k n r : Nat) : stW xs ys m k n r k = stW xs ys m k n (r + 1) 0 := by
  apply extW (by rw [length_stW, length_stW])
  intro p hp
  rw [length_stW] at hp
  unfold stW
  rw [nthW_range _ _ hp, nthW_range _ _ hp]
  by_cases h1 : p < r
  · rw [if_pos h1, if_pos (by omega)]
  · by_cases h2 : p = r
    · rw [if_neg h1, if_pos h2, if_pos (by omega)]
    · rw [if_neg h1, if_neg h2, if_neg (by omega)]
      by_cases h3 : p = r + 1
      · rw [if_pos h3]; rfl
      · rw [if_neg h3]
theorem stW_end (xs ys : List UInt64) (m k n : Nat) : stW xs ys m k n (m * n) 0 = matW xs ys m k n := by
  apply extW (by rw [length_stW, length_matW])
  intro p hp
  rw [length_stW] at hp
  rw [nthW_matW _ _ _ _ _ hp]
  unfold stW
  rw [nthW_range _ _ hp, if_pos hp]
/-- The step as the code takes it: row i, column j. -/
theorem stW_cell (xs ys : List UInt64) (m k n i j t : Nat) (hi : i < m) (hj : j < n) :
    (stW xs ys m k n (i * n + j) t).set (i * n + j) (addW (nthW (stW xs ys m k n (i * n + j) t) (i * n + j)) (mulW (nthW xs (i * k + t)) (nthW ys (t * n + j)))) = stW xs ys m k n (i * n + j) (t + 1) := by
  have hlt : i * n + j < m * n := by
    have h1 : (i + 1) * n ≤ m * n := Nat.mul_le_mul_right n hi
    rw [Nat.add_mul] at h1
    omega
  have hd : (i * n + j) / n = i := by
    rw [Nat.mul_comm, Nat.mul_add_div (by omega), Nat.div_eq_of_lt hj]; omega
  have hm : (i * n + j) % n = j := by
    rw [Nat.mul_comm, Nat.mul_add_mod, Nat.mod_eq_of_lt hj]
  have := stW_step xs ys m k n (i * n + j) t hlt
  rw [hd, hm] at this
  rw [stW_here _ _ _ _ _ _ _ hlt, this]
attribute [irreducible] stW matW dotW
end Go.Proofs.YtpjhbdhpphgldaaDoor
