/-
  Walks of the ring's laws.
-/
import Derived.Test.YtpjhbdhpphgldaaRingC
namespace Go.Proofs.Ytpjhbdhpphgldaa
set_option linter.unusedVariables false
set_option linter.unusedSimpArgs false
open Go.RowKit
attribute [local go_sem ↓] u64_add u64_sub u64_mul u64_beq u64_bne u64_lt u64_wrap u64_beq1 u64_beq0 u64_bne0 i64_u64 u64_dbl u64_dbl'

/-! ### RingWords -/
theorem W_less (x y : UInt64) : ltW (up63 x) (up63 y) = sltW x y := by
  unfold ltW up63 sltW
  rw [decide_eq_decide, UInt64.lt_iff_toNat_lt, UInt64.toNat_add, UInt64.toNat_add, sI_eq, sI_eq]
  have := x.toNat_lt; have := y.toNat_lt
  have e : (9223372036854775808 : UInt64).toNat = 9223372036854775808 := rfl
  rw [e]
  split <;> split <;> omega
theorem W_spread (x : UInt64) : rspreadW x = negW (andW x 1) := by
  unfold rspreadW negW andW
  have h : x &&& 1 = 0 ∨ x &&& 1 = 1 := by
    have : (x &&& 1).toNat = x.toNat % 2 := by rw [UInt64.toNat_and, show (1 : UInt64).toNat = 1 from rfl, Nat.and_one_is_mod]
    rcases Nat.mod_two_eq_zero_or_one x.toNat with h | h
    · left; apply UInt64.toNat_inj.1; rw [this, h]; rfl
    · right; apply UInt64.toNat_inj.1; rw [this, h]; rfl
  rcases h with h | h <;> rw [h] <;> decide
theorem W_sum (x y : UInt64) : sumW [x, y, x] = addW (shlW x 1) y := by
  unfold sumW addW shlW
  have : x <<< 1 = x + x := by
    apply UInt64.toNat_inj.1
    rw [UInt64.toNat_shiftLeft, UInt64.toNat_add, show (1 : UInt64).toNat = 1 from rfl]
    simp [Nat.shiftLeft_eq]
    omega
  rw [this]
  simp only [List.foldl]
  grind
theorem three_words (w : World) (x y z : UInt64) : Rd (w.alloc (.cells #[U x, U y, U z] 22)) (w.heap.size + 1) (some ⟨w.heap.size, 0, none⟩) ([x, y, z].map U) :=
  Rd.of_block (heap_alloc_new w _) (by omega) (by simp)
set_option maxRecDepth 100000 in
set_option maxHeartbeats 400000 in
theorem RingWords_walk (w : World) (x y : UInt64) (k : Int) (_ : -9223372036854775808 ≤ k) (_ : k ≤ 9223372036854775807) :
    Calls Try.prog 8 #[U x, U y, .int .i64 k] w fun e w' => e = .returned (.bool true) ∧ Below w.heap.size w w' := by
  have hs : ∀ n, Calls Try.prog 21 #[.slice none 0 0] n fun e w' => e = .returned (.int .u64 0) ∧ n = w' := fun n => by
    have h := Sum_any none 0 [] 0 n (by simp) (Rd.nil _ _ _)
    have e : sumW [] = 0 := by decide +kernel
    rw [e] at h
    exact h
  go_enter Try.func8, Try.ntmps8
  go_wp2_with fail
  refine (awake_any w).mono ?_
  rintro e w1 ⟨rfl, hb1⟩
  go_wp2_with fail
  refine (Floor_any x k _).mono ?_
  rintro e w' ⟨rfl, rfl⟩
  go_wp2_with fail
  refine (rFloor_any x k _).mono ?_
  rintro e w' ⟨rfl, rfl⟩
  go_wp2_with fail
  refine (Less_any x y _).mono ?_
  rintro e w' ⟨rfl, rfl⟩
  go_wp2_with fail
  refine (rLess_any x y _).mono ?_
  rintro e w' ⟨rfl, rfl⟩
  rw [W_less]
  go_wp2_with fail
  refine (Spread_any x _).mono ?_
  rintro e w' ⟨rfl, rfl⟩
  go_wp2_with fail
  refine (rSpread_any x _).mono ?_
  rintro e w' ⟨rfl, rfl⟩
  rw [W_spread]
  go_wp2_with fail
  refine (Sum_any _ _ [x, y, x] _ _ (by simp) (three_words w1 x y x)).mono ?_
  rintro e w' ⟨rfl, rfl⟩
  rw [W_sum]
  go_wp2_with fail
  refine (hs _).mono ?_
  rintro e w' ⟨rfl, rfl⟩
  go_wp2
  go_ret
  exact ⟨rfl, hb1.alloc (by have := hb1.size; omega) _⟩
end Go.Proofs.Ytpjhbdhpphgldaa
