/-
  The walks of RingFloor, RingOrder and RingLabels.
-/
import Derived.Test.YtpjhbdhpphgldaaRingC
import Derived.Deep.RegionHeld3
import Derived.Deep.DrawnRows
namespace Go.Proofs.Ytpjhbdhpphgldaa
set_option linter.unusedVariables false
set_option linter.unusedSimpArgs false
open Go.RowKit
def m63 (x : UInt64) : Nat := x.toNat % 63
theorem m63_lt (x : UInt64) : m63 x < 63 := Nat.mod_lt _ (by omega)
theorem u64_mod63 (x : UInt64) : (x.toNat : Int) % 63 = (m63 x : Int) := rfl
theorem u64_tmod63 (x : UInt64) : (x.toNat : Int).tmod 63 = (m63 x : Int) := by rw [← u64_mod63, Int.tmod_eq_emod_of_nonneg (by omega)]
def m64 (x : UInt64) : Nat := x.toNat % 64
theorem m64_lt (x : UInt64) : m64 x < 64 := Nat.mod_lt _ (by omega)
theorem u64_mod64 (x : UInt64) : (x.toNat : Int) % 64 = (m64 x : Int) := rfl
theorem u64_tmod64 (x : UInt64) : (x.toNat : Int).tmod 64 = (m64 x : Int) := by rw [← u64_mod64, Int.tmod_eq_emod_of_nonneg (by omega)]
attribute [irreducible] m63 m64
theorem word_of (k : Int) : ∃ u : UInt64, IntKind.u64.wrap k = (u.toNat : Int) := by
  refine of_u64 (WalkArith.wf_u64 ?_)
  rw [wrapN]; omega
theorem Floor_fit (x : UInt64) (k : Int) (j : Nat) (w : World) (h : (min (max k 0) 63).toNat = j) :
    Calls Try.prog 10 #[U x, .int .i64 k] w fun e w' => e = .returned (U (sarW x j)) ∧ w = w' := by
  subst h
  exact Floor_any x k w
def shlN (x : UInt64) (k : Nat) : UInt64 := UInt64.ofNat (x.toNat * 2 ^ k)
theorem u64_shlN (x : UInt64) (k : Nat) : IntKind.u64.wrap ((x.toNat : Int) * 2 ^ k) = ((shlN x k).toNat : Int) := by
  unfold shlN
  rw [wrapN, UInt64.toNat_ofNat']
  have e : ((x.toNat : Int) * 2 ^ k) = ((x.toNat * 2 ^ k : Nat) : Int) := by simp
  rw [e]
  omega
theorem u64_pow (k : Nat) : IntKind.u64.wrap (2 ^ k) = ((shlN 1 k).toNat : Int) := by
  rw [← u64_shlN]
  congr 1
  show (2 : Int) ^ k = ((1 : Nat) : Int) * 2 ^ k
  rw [Int.natCast_one, Int.one_mul]
theorem pow_lt63 {j : Nat} (h : j < 63) : (2 : Int) ^ j ≤ 4611686018427387904 := by
  have : (2 : Nat) ^ j ≤ 2 ^ 62 := Nat.pow_le_pow_right (by omega) (by omega)
  have e : ((2 : Int) ^ j) = ((2 ^ j : Nat) : Int) := by simp
  rw [e]
  omega
theorem floor_rest (x : UInt64) {j : Nat} (h : j < 63) : ltW (subW x (shlN (sarW x j) j)) (shlN 1 j) = true := by
  rw [← u64_lt, decide_eq_true_iff, ← u64_pow, ← u64_sub, ← u64_shlN, wrapN, wrapN, wrapN]
  have hp := pow_lt63 h
  have hp0 : (0 : Int) < 2 ^ j := Int.pow_pos (by decide)
  have hq := sI_sar x j
  have hd := Int.mul_ediv_add_emod (sI x) (2 ^ j)
  have hr0 := Int.emod_nonneg (sI x) (show (2 : Int) ^ j ≠ 0 by omega)
  have hr1 := Int.emod_lt_of_pos (sI x) hp0
  rw [← hq] at hd
  obtain ⟨a, ha⟩ : ∃ a : Int, (x.toNat : Int) = sI x + a * 18446744073709551616 := by
    rw [sI_eq]; split
    · exact ⟨0, by omega⟩
    · exact ⟨1, by omega⟩
  obtain ⟨b, hb⟩ : ∃ b : Int, ((sarW x j).toNat : Int) = sI (sarW x j) + b * 18446744073709551616 := by
    rw [sI_eq (sarW x j)]; split
    · exact ⟨0, by omega⟩
    · exact ⟨1, by omega⟩
  have ht : ((sarW x j).toNat : Int) * 2 ^ j = 2 ^ j * sI (sarW x j) + 18446744073709551616 * (b * 2 ^ j) := by
    rw [hb, Int.add_mul, Int.mul_comm (sI (sarW x j)), Int.mul_comm b, Int.mul_assoc]
  rw [ht]
  generalize (2 : Int) ^ j * sI (sarW x j) = Q at *
  generalize b * 2 ^ j = Z at *
  generalize sI x % 2 ^ j = r at *
  generalize (2 : Int) ^ j = P at *
  omega
theorem floor_sign (x : UInt64) {j : Nat} (h : j < 63) : decide (sI (sarW x j) < 0) = decide (sI x < 0) := by
  rw [decide_eq_decide, sI_sar]
  have hp0 : (0 : Int) < 2 ^ j := Int.pow_pos (by decide)
  exact ⟨fun h => by
    rcases Int.lt_or_le (sI x) 0 with h2 | h2
    · exact h2
    · have := Int.ediv_nonneg h2 (Int.le_of_lt hp0); omega, fun h => Int.ediv_neg_of_neg_of_pos h hp0⟩
attribute [irreducible] shlN
attribute [local go_sem ↓] u64_add u64_sub u64_mul u64_beq u64_bne u64_lt u64_wrap u64_beq1 u64_beq0 u64_bne0 i64_u64 u64_mod63 u64_tmod63 u64_mod64 u64_tmod64 u64_shlN u64_pow
set_option maxRecDepth 100000 in
set_option maxHeartbeats 400000 in
theorem RingFloor_walk (w : World) (x : UInt64) (k : Int) (_ : -9223372036854775808 ≤ k) (_ : k ≤ 9223372036854775807) :
    Calls Try.prog 3 #[U x, .int .i64 k] w fun e w' => e = .returned (.bool true) ∧ Below w.heap.size w w' := by
  obtain ⟨u, hu⟩ := word_of k
  have hm := m63_lt u
  have t1 := floor_rest x hm
  have t2 := floor_sign x hm
  have t3 := Floor_fit (sarW x (m63 u)) 0 0
  rw [sar_zero] at t3
  go_enter Try.func3, Try.ntmps3
  go_wp2_with fail
  refine (awake_any w).mono ?_
  rintro e w1 ⟨rfl, hb1⟩
  go_wp2_with fail
  refine (Floor_fit x _ (m63 u) _ (by omega)).mono ?_
  rintro e w' ⟨rfl, rfl⟩
  go_wp2_with fail
  refine (t3 _ rfl).mono ?_
  rintro e w' ⟨rfl, rfl⟩
  go_wp2
  go_ret
  exact ⟨rfl, hb1⟩

/-! ### RingOrder -/
theorem sar_many (x : UInt64) {j : Nat} (h : 63 ≤ j) : sarW x j = sarW x 63 := by
  apply sI_inj
  rw [sI_sar, sI_sar]
  have hb : -9223372036854775808 ≤ sI x ∧ sI x < 9223372036854775808 := by
    rw [sI_eq]; have := x.toNat_lt; split <;> omega
  have hp : (9223372036854775808 : Int) ≤ 2 ^ j := by
    have : (2 : Nat) ^ 63 ≤ 2 ^ j := Nat.pow_le_pow_right (by omega) h
    have e : ((2 : Int) ^ j) = ((2 ^ j : Nat) : Int) := by simp
    rw [e]; omega
  have e63 : (2 : Int) ^ 63 = 9223372036854775808 := by decide
  rw [e63]
  rcases Int.lt_or_le (sI x) 0 with h2 | h2
  · have a1 : sI x / 2 ^ j = -1 := by
      have := (Int.ediv_eq_iff_of_pos (k := 2 ^ j) (x := sI x) (y := -1) (by omega)).2 ⟨by omega, by omega⟩
      exact this
    rw [a1]; omega
  · rw [Int.ediv_eq_zero_of_lt h2 (by omega)]; omega
theorem oneW_lt (x y : UInt64) (h : sI x < sI y) : oneW (sltW x y) = 1 := by
  have : sltW x y = true := by rw [← slt_eq]; simpa using h
  rw [this]; rfl
theorem oneW_ge (x y : UInt64) (h : ¬ sI x < sI y) : oneW (sltW x y) = 0 := by
  have : sltW x y = false := by rw [← slt_eq]; simpa using h
  rw [this]; rfl
theorem Less_lt (x y : UInt64) (h : sI x < sI y) (w : World) : Calls Try.prog 14 #[U x, U y] w fun e w' => e = .returned (.int .u64 1) ∧ w = w' := by
  have := Less_any x y w
  rw [oneW_lt x y h] at this
  exact this
theorem Less_ge (x y : UInt64) (h : ¬ sI x < sI y) (w : World) : Calls Try.prog 14 #[U x, U y] w fun e w' => e = .returned (.int .u64 0) ∧ w = w' := by
  have := Less_any x y w
  rw [oneW_ge x y h] at this
  exact this
theorem sar_mono {x y : UInt64} (h : sI x ≤ sI y) (k : Nat) : sI (sarW x k) ≤ sI (sarW y k) := by
  rw [sI_sar, sI_sar]
  exact Int.ediv_le_ediv (Int.pow_pos (by decide)) h
set_option maxRecDepth 100000 in
set_option maxHeartbeats 1000000 in
theorem RingOrder_walk (w : World) (x y z : UInt64) :
    Calls Try.prog 5 #[U x, U y, U z] w fun e w' => e = .returned (.bool true) ∧ Below w.heap.size w w' := by
  have hm := m64_lt z
  have t3 : ∀ w, Calls Try.prog 10 #[U (sarW x (m64 z)), .int .i64 3] w fun e w' => e = .returned (U (sarW x (m64 z + 3))) ∧ w = w' := fun w => by
    have := Floor_fit (sarW x (m64 z)) 3 3 w (by omega)
    rw [sar_sar] at this
    exact this
  have t4 : ∀ w, Calls Try.prog 10 #[U x, .int .i64 ((m64 z : Int) + 3)] w fun e w' => e = .returned (U (sarW x (m64 z + 3))) ∧ w = w' := fun w => by
    by_cases h : m64 z + 3 ≤ 63
    · exact Floor_fit x _ (m64 z + 3) w (by omega)
    · rw [sar_many x (by omega : 63 ≤ m64 z + 3)]
      exact Floor_fit x _ 63 w (by omega)
  have T3 := Lib.hid t3
  have T4 := Lib.hid t4
  clear t3 t4
  rcases Int.lt_trichotomy (sI x) (sI y) with h | h | h
  · have hxy : (x == y) = false := by rw [beq_eq_false_iff_ne]; rintro rfl; omega
    have hge := sar_mono (Int.le_of_lt h) (m64 z)
    by_cases hz : sI y < sI z
    · go_enter Try.func5, Try.ntmps5
      go_wp2_with fail
      refine (awake_any w).mono ?_
      rintro e w1 ⟨rfl, hb1⟩
      go_wp2_with fail
      refine (Less_lt x y h _).mono ?_
      rintro e w' ⟨rfl, rfl⟩
      go_wp2_with fail
      refine (Less_ge y x (by omega) _).mono ?_
      rintro e w' ⟨rfl, rfl⟩
      go_wp2_with fail
      refine (Less_lt y z hz _).mono ?_
      rintro e w' ⟨rfl, rfl⟩
      go_wp2_with fail
      refine (Less_lt x z (by omega) _).mono ?_
      rintro e w' ⟨rfl, rfl⟩
      go_wp2_with fail
      refine (Floor_fit y _ (m64 z) _ (by omega)).mono ?_
      rintro e w' ⟨rfl, rfl⟩
      go_wp2_with fail
      refine (Floor_fit x _ (m64 z) _ (by omega)).mono ?_
      rintro e w' ⟨rfl, rfl⟩
      go_wp2_with fail
      refine (Less_ge (sarW y (m64 z)) (sarW x (m64 z)) (by omega) _).mono ?_
      rintro e w' ⟨rfl, rfl⟩
      go_wp2_with fail
      refine (Floor_fit x _ (m64 z) _ (by omega)).mono ?_
      rintro e w' ⟨rfl, rfl⟩
      go_wp2_with fail
      refine (T3.out _).mono ?_
      rintro e w' ⟨rfl, rfl⟩
      go_wp2_with fail
      refine (T4.out _).mono ?_
      rintro e w' ⟨rfl, rfl⟩
      go_wp2
      go_ret
      exact ⟨rfl, hb1⟩

    · go_enter Try.func5, Try.ntmps5
      go_wp2_with fail
      refine (awake_any w).mono ?_
      rintro e w1 ⟨rfl, hb1⟩
      go_wp2_with fail
      refine (Less_lt x y h _).mono ?_
      rintro e w' ⟨rfl, rfl⟩
      go_wp2_with fail
      refine (Less_ge y x (by omega) _).mono ?_
      rintro e w' ⟨rfl, rfl⟩
      go_wp2_with fail
      refine (Less_ge y z (by omega) _).mono ?_
      rintro e w' ⟨rfl, rfl⟩
      go_wp2_with fail
      refine (Floor_fit y _ (m64 z) _ (by omega)).mono ?_
      rintro e w' ⟨rfl, rfl⟩
      go_wp2_with fail
      refine (Floor_fit x _ (m64 z) _ (by omega)).mono ?_
      rintro e w' ⟨rfl, rfl⟩
      go_wp2_with fail
      refine (Less_ge (sarW y (m64 z)) (sarW x (m64 z)) (by omega) _).mono ?_
      rintro e w' ⟨rfl, rfl⟩
      go_wp2_with fail
      refine (Floor_fit x _ (m64 z) _ (by omega)).mono ?_
      rintro e w' ⟨rfl, rfl⟩
      go_wp2_with fail
      refine (T3.out _).mono ?_
      rintro e w' ⟨rfl, rfl⟩
      go_wp2_with fail
      refine (T4.out _).mono ?_
      rintro e w' ⟨rfl, rfl⟩
      go_wp2
      go_ret
      exact ⟨rfl, hb1⟩

  · obtain rfl := sI_inj h
    clear h
    go_enter Try.func5, Try.ntmps5
    go_wp2_with fail
    refine (awake_any w).mono ?_
    rintro e w1 ⟨rfl, hb1⟩
    go_wp2_with fail
    refine (Less_ge x x (by omega) _).mono ?_
    rintro e w' ⟨rfl, rfl⟩
    go_wp2_with fail
    refine (Less_ge x x (by omega) _).mono ?_
    rintro e w' ⟨rfl, rfl⟩
    go_wp2_with fail
    refine (Floor_fit x _ (m64 z) _ (by omega)).mono ?_
    rintro e w' ⟨rfl, rfl⟩
    go_wp2_with fail
    refine (Floor_fit x _ (m64 z) _ (by omega)).mono ?_
    rintro e w' ⟨rfl, rfl⟩
    go_wp2_with fail
    refine (Less_ge (sarW x (m64 z)) (sarW x (m64 z)) (by omega) _).mono ?_
    rintro e w' ⟨rfl, rfl⟩
    go_wp2_with fail
    refine (Floor_fit x _ (m64 z) _ (by omega)).mono ?_
    rintro e w' ⟨rfl, rfl⟩
    go_wp2_with fail
    refine (T3.out _).mono ?_
    rintro e w' ⟨rfl, rfl⟩
    go_wp2_with fail
    refine (T4.out _).mono ?_
    rintro e w' ⟨rfl, rfl⟩
    go_wp2
    go_ret
    exact ⟨rfl, hb1⟩

  · have hxy : (x == y) = false := by rw [beq_eq_false_iff_ne]; rintro rfl; omega
    by_cases hf : sI (sarW y (m64 z)) < sI (sarW x (m64 z))
    · go_enter Try.func5, Try.ntmps5
      go_wp2_with fail
      refine (awake_any w).mono ?_
      rintro e w1 ⟨rfl, hb1⟩
      go_wp2_with fail
      refine (Less_ge x y (by omega) _).mono ?_
      rintro e w' ⟨rfl, rfl⟩
      go_wp2_with fail
      refine (Less_lt y x (by omega) _).mono ?_
      rintro e w' ⟨rfl, rfl⟩
      go_wp2_with fail
      refine (Floor_fit y _ (m64 z) _ (by omega)).mono ?_
      rintro e w' ⟨rfl, rfl⟩
      go_wp2_with fail
      refine (Floor_fit x _ (m64 z) _ (by omega)).mono ?_
      rintro e w' ⟨rfl, rfl⟩
      go_wp2_with fail
      refine (Less_lt (sarW y (m64 z)) (sarW x (m64 z)) hf _).mono ?_
      rintro e w' ⟨rfl, rfl⟩
      go_wp2_with fail
      refine (Floor_fit x _ (m64 z) _ (by omega)).mono ?_
      rintro e w' ⟨rfl, rfl⟩
      go_wp2_with fail
      refine (T3.out _).mono ?_
      rintro e w' ⟨rfl, rfl⟩
      go_wp2_with fail
      refine (T4.out _).mono ?_
      rintro e w' ⟨rfl, rfl⟩
      go_wp2
      go_ret
      exact ⟨rfl, hb1⟩

    · go_enter Try.func5, Try.ntmps5
      go_wp2_with fail
      refine (awake_any w).mono ?_
      rintro e w1 ⟨rfl, hb1⟩
      go_wp2_with fail
      refine (Less_ge x y (by omega) _).mono ?_
      rintro e w' ⟨rfl, rfl⟩
      go_wp2_with fail
      refine (Less_lt y x (by omega) _).mono ?_
      rintro e w' ⟨rfl, rfl⟩
      go_wp2_with fail
      refine (Floor_fit y _ (m64 z) _ (by omega)).mono ?_
      rintro e w' ⟨rfl, rfl⟩
      go_wp2_with fail
      refine (Floor_fit x _ (m64 z) _ (by omega)).mono ?_
      rintro e w' ⟨rfl, rfl⟩
      go_wp2_with fail
      refine (Less_ge (sarW y (m64 z)) (sarW x (m64 z)) (by omega) _).mono ?_
      rintro e w' ⟨rfl, rfl⟩
      go_wp2_with fail
      refine (Floor_fit x _ (m64 z) _ (by omega)).mono ?_
      rintro e w' ⟨rfl, rfl⟩
      go_wp2_with fail
      refine (T3.out _).mono ?_
      rintro e w' ⟨rfl, rfl⟩
      go_wp2_with fail
      refine (T4.out _).mono ?_
      rintro e w' ⟨rfl, rfl⟩
      go_wp2
      go_ret
      exact ⟨rfl, hb1⟩

end Go.Proofs.Ytpjhbdhpphgldaa
