/-
  Walks of the ring's plain functions: what each of them hands back, as a plain function on words.
-/
import Derived.Test.YtpjhbdhpphgldaaRows
import Derived.Test.YtpjhbdhpphgldaaLabL
namespace Go.Proofs.Ytpjhbdhpphgldaa
set_option linter.unusedVariables false
set_option linter.unusedSimpArgs false
open Go.RowKit

attribute [local go_sem ↓] u64_add u64_mul u64_sub u64_neg u64_beq u64_bne u64_lt u64_xor u64_and u64_or u64_up63 u64_dbl u64_div63 u64_div2 u64_tdiv63 u64_tdiv2 u64_wrap u64_and1 u64_mod2 u64_tmod2 u64_xor135 u64_beq1 u64_ge63 i64_u64 u64_i64_div u64_i64_div63 u64_i64 slt_eq

/-- A word that is 1 or 0. -/
def oneW (b : Bool) : UInt64 := if b then 1 else 0

set_option maxRecDepth 100000 in
theorem Floor_any (x : UInt64) (k : Int) (w : World) :
    Calls Try.prog 10 #[U x, .int .i64 k] w fun e w' => e = .returned (U (sarW x (min (max k 0) 63).toNat)) ∧ w = w' := by
  rcases (by omega : k < 0 ∨ (0 ≤ k ∧ k ≤ 63) ∨ 63 < k) with h | ⟨h1, h2⟩ | h
  · have e : (min (max k 0) 63).toNat = 0 := by omega
    have z : sarW x 0 = x := by have := u64_i64_div x 0; simp [u64_i64] at this; exact (UInt64.toNat_inj.1 (by omega)).symm
    go_enter Try.func10, Try.ntmps10
    go_wp2
    go_ret
    exact ⟨by rw [e, z]; rfl, rfl⟩
  · have e : (min (max k 0) 63) = k := by omega
    rw [e]
    clear e
    go_enter Try.func10, Try.ntmps10
    go_wp2
    go_ret
    exact ⟨rfl, rfl⟩
  · have e : (min (max k 0) 63).toNat = 63 := by omega
    rw [e]
    clear e
    go_enter Try.func10, Try.ntmps10
    go_wp2
    go_ret
    exact ⟨rfl, rfl⟩
set_option maxRecDepth 100000 in
theorem Less_any (x y : UInt64) (w : World) :
    Calls Try.prog 14 #[U x, U y] w fun e w' => e = .returned (U (oneW (sltW x y))) ∧ w = w' := by
  go_enter Try.func14, Try.ntmps14
  go_wp2
  all_goals (go_ret; exact ⟨by simp [oneW, *], rfl⟩)
set_option maxRecDepth 100000 in
theorem rLess_any (x y : UInt64) (w : World) :
    Calls Try.prog 23 #[U x, U y] w fun e w' => e = .returned (U (oneW (ltW (up63 x) (up63 y)))) ∧ w = w' := by
  go_enter Try.func23, Try.ntmps23
  go_wp2
  all_goals (go_ret; exact ⟨by simp [oneW, *], rfl⟩)
set_option maxRecDepth 100000 in
theorem Spread_any (x : UInt64) (w : World) :
    Calls Try.prog 24 #[U x] w fun e w' => e = .returned (U (negW (andW x 1))) ∧ w = w' := by
  go_enter Try.func24, Try.ntmps24
  go_wp2
  all_goals (go_ret; exact ⟨rfl, rfl⟩)
def rspreadW (x : UInt64) : UInt64 := if andW x 1 == 1 then 18446744073709551615 else 0
set_option maxRecDepth 100000 in
theorem rSpread_any (x : UInt64) (w : World) :
    Calls Try.prog 25 #[U x] w fun e w' => e = .returned (U (rspreadW x)) ∧ w = w' := by
  go_enter Try.func25, Try.ntmps25
  go_wp2
  all_goals (go_ret; exact ⟨by simp [rspreadW, *], rfl⟩)
set_option maxRecDepth 100000 in
theorem Xor_any (a b c d : UInt64) (w : World)  :
    Calls Try.prog 15 #[.agg #[U a, U b], .agg #[U c, U d]] w fun e w' => e = .returned (.agg #[U (xorW a c), U (xorW b d)]) ∧ Below w.heap.size w w' := by
  go_enter Try.func15, Try.ntmps15
  go_wp2
  exact bodyPost_ret (v := .agg #[U (xorW a c), U (xorW b d)]) (by simp [results, Try.results15, go_sem]) rfl ⟨rfl, (((Below.refl _ _).alloc (Nat.le_refl _) _).alloc (by simp) _).alloc (by simp; omega) _⟩
set_option maxRecDepth 100000 in
theorem rXor_any (a b c d : UInt64) (w : World)  :
    Calls Try.prog 16 #[.agg #[U a, U b], .agg #[U c, U d]] w fun e w' => e = .returned (.agg #[U (xorW a c), U (xorW b d)]) ∧ Below w.heap.size w w' := by
  go_enter Try.func16, Try.ntmps16
  go_wp2
  exact bodyPost_ret (v := .agg #[U (xorW a c), U (xorW b d)]) (by simp [results, Try.results16, go_sem]) rfl ⟨rfl, (((Below.refl _ _).alloc (Nat.le_refl _) _).alloc (by simp) _).alloc (by simp; omega) _⟩
set_option maxRecDepth 100000 in
theorem Double_any (a b : UInt64) (w : World)  :
    Calls Try.prog 17 #[.agg #[U a, U b]] w fun e w' => e = .returned (.agg #[U (dblLo a b), U (dblHi a b)]) ∧ Below w.heap.size w w' := by
  go_enter Try.func17, Try.ntmps17
  go_wp2
  all_goals exact bodyPost_ret (v := .agg #[U (dblLo a b), U (dblHi a b)]) (by simp [results, Try.results17, go_sem, dblLo, dblHi, *]) rfl ⟨rfl, (((Below.refl _ _).alloc (Nat.le_refl _) _).alloc (by simp) _).alloc (by simp; omega) _⟩
set_option maxRecDepth 100000 in
theorem rDouble_any (a b : UInt64) (w : World)  :
    Calls Try.prog 18 #[.agg #[U a, U b]] w fun e w' => e = .returned (.agg #[U (dblLo a b), U (rdblHi a b)]) ∧ Below w.heap.size w w' := by
  go_enter Try.func18, Try.ntmps18
  go_wp2
  all_goals exact bodyPost_ret (v := .agg #[U (dblLo a b), U (rdblHi a b)]) (by simp [results, Try.results18, go_sem, dblLo, rdblHi, *]) rfl ⟨rfl, ((Below.refl _ _).alloc (Nat.le_refl _) _).alloc (by simp) _⟩
end Go.Proofs.Ytpjhbdhpphgldaa
