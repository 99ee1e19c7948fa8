/-
  Plain laws of the ring: no program.
-/
import Derived.Test.YtpjhbdhpphgldaaMatL
namespace Go.Proofs.Ytpjhbdhpphgldaa
set_option linter.unusedVariables false
set_option linter.unusedSimpArgs false
open Go.RowKit
set_option linter.unusedVariables false
theorem nth_mat3 (xs ys : List UInt64) {i j : Nat} (hi : i < 3) (hj : j < 3) :
    nthW (matW xs ys 3 3 3) (i * 3 + j) = nthW xs (i * 3) * nthW ys j + nthW xs (i * 3 + 1) * nthW ys (3 + j) + nthW xs (i * 3 + 2) * nthW ys (6 + j) := by
  rw [nthW_matW _ _ _ _ _ (by omega)]
  have h1 : (i * 3 + j) / 3 = i := by omega
  have h2 : (i * 3 + j) % 3 = j := by omega
  unfold dotW addW mulW
  unfold dotW addW mulW
  unfold dotW addW mulW
  unfold dotW
  rw [h1, h2]
  simp only [Nat.add_zero, Nat.zero_mul, Nat.zero_add, Nat.one_mul]
  grind
theorem ext3 {l l' : List UInt64} (h : l.length = 9) (h' : l'.length = 9) (he : ∀ i j, i < 3 → j < 3 → nthW l (i * 3 + j) = nthW l' (i * 3 + j)) : l = l' := by
  apply extW (by omega)
  intro p hp
  have := he (p / 3) (p % 3) (by omega) (by omega)
  rw [show p / 3 * 3 + p % 3 = p from by omega] at this
  exact this
theorem mat3_assoc (a b c : List UInt64) : matW (matW a b 3 3 3) c 3 3 3 = matW a (matW b c 3 3 3) 3 3 3 := by
  apply ext3 (length_matW _ _ _ _ _) (length_matW _ _ _ _ _)
  intro i j hi hj
  rw [nth_mat3 _ _ hi hj, nth_mat3 _ _ hi hj]
  have e1 := nth_mat3 a b hi (show 0 < 3 from by omega)
  have e2 := nth_mat3 a b hi (show 1 < 3 from by omega)
  have e3 := nth_mat3 a b hi (show 2 < 3 from by omega)
  have f1 := nth_mat3 b c (show 0 < 3 from by omega) hj
  have f2 := nth_mat3 b c (show 1 < 3 from by omega) hj
  have f3 := nth_mat3 b c (show 2 < 3 from by omega) hj
  simp only [Nat.add_zero, Nat.zero_mul, Nat.zero_add, Nat.one_mul, Nat.reduceMul] at e1 e2 e3 f1 f2 f3
  rw [e1, e2, e3, f1, f2, f3]
  grind
def plusW (a b : List UInt64) : List UInt64 := (List.range 9).map fun p => addW (nthW a p) (nthW b p)
theorem length_plusW (a b : List UInt64) : (plusW a b).length = 9 := by unfold plusW; simp
theorem nthW_plusW (a b : List UInt64) {p : Nat} (h : p < 9) : nthW (plusW a b) p = nthW a p + nthW b p := by
  unfold plusW; rw [nthW_range _ _ h]; unfold addW; rfl
theorem mat3_plus (a b c : List UInt64) {p : Nat} (h : p < 9) : nthW (matW a (plusW b c) 3 3 3) p = addW (nthW (matW a b 3 3 3) p) (nthW (matW a c 3 3 3) p) := by
  obtain ⟨i, j, hi, hj, rfl⟩ : ∃ i j, i < 3 ∧ j < 3 ∧ p = i * 3 + j := ⟨p / 3, p % 3, by omega, by omega, by omega⟩
  rw [nth_mat3 _ _ hi hj, nth_mat3 _ _ hi hj, nth_mat3 _ _ hi hj, nthW_plusW _ _ (by omega), nthW_plusW _ _ (by omega), nthW_plusW _ _ (by omega)]
  unfold addW
  grind
def plusSt (a b : List UInt64) (i : Nat) : List UInt64 := (List.range 9).map fun p => if p < i then addW (nthW a p) (nthW b p) else 0
theorem length_plusSt (a b : List UInt64) (i : Nat) : (plusSt a b i).length = 9 := by unfold plusSt; simp
theorem plusSt_start (a b : List UInt64) : zerosW 9 = plusSt a b 0 := by
  apply extW (by rw [length_zerosW, length_plusSt])
  intro p hp
  rw [length_zerosW] at hp
  unfold plusSt
  rw [nthW_zeros, nthW_range _ _ hp, if_neg (by omega)]
theorem plusSt_step (a b : List UInt64) (i : Nat) (h : i < 9) : (plusSt a b i).set i (addW (nthW a i) (nthW b i)) = plusSt a b (i + 1) := by
  apply extW (by rw [List.length_set, length_plusSt, length_plusSt])
  intro p hp
  rw [List.length_set, length_plusSt] at hp
  by_cases hpr : p = i
  · subst hpr
    rw [nthW_set_same _ _ _ (by rw [length_plusSt]; omega)]
    unfold plusSt
    rw [nthW_range _ _ hp, if_pos (by omega)]
  · rw [nthW_set_other _ _ hpr]
    unfold plusSt
    rw [nthW_range _ _ hp, nthW_range _ _ hp]
    by_cases h1 : p < i
    · rw [if_pos h1, if_pos (by omega)]
    · rw [if_neg h1, if_neg (by omega)]
theorem plusSt_end (a b : List UInt64) : plusSt a b 9 = plusW a b := by
  apply extW (by rw [length_plusSt, length_plusW])
  intro p hp
  rw [length_plusSt] at hp
  unfold plusSt plusW
  rw [nthW_range _ _ hp, nthW_range _ _ hp, if_pos (by omega)]
attribute [irreducible] plusW plusSt
end Go.Proofs.Ytpjhbdhpphgldaa
