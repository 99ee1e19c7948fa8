/-
  Walks of the ring's plain functions that the law of the matrices reaches.
-/
import Derived.Test.YtpjhbdhpphgldaaDoorRows
import Derived.Test.YtpjhbdhpphgldaaDoorLabL
namespace Go.Proofs.YtpjhbdhpphgldaaDoor
set_option linter.unusedVariables false
set_option linter.unusedSimpArgs false
open Go.RowKit
attribute [local go_sem ↓] u64_add u64_mul u64_sub u64_neg u64_beq u64_bne u64_lt u64_xor u64_and u64_or u64_up63 u64_dbl u64_div63 u64_div2 u64_tdiv63 u64_tdiv2 u64_wrap u64_and1 u64_mod2 u64_tmod2 u64_xor135 u64_beq1 u64_ge63 i64_u64 u64_i64_div u64_i64_div63 u64_i64 slt_eq
def oneW (b : Bool) : UInt64 := if b then 1 else 0

set_option maxRecDepth 100000 in
theorem Floor_any (x : UInt64) (k : Int) (w : World) :
    Calls Tryd.prog 9 #[U x, .int .i64 k] w fun e w' => e = .returned (U (sarW x (min (max k 0) 63).toNat)) ∧ w = w' := by
  rcases (by omega : k < 0 ∨ (0 ≤ k ∧ k ≤ 63) ∨ 63 < k) with h | ⟨h1, h2⟩ | h
  · have e : (min (max k 0) 63).toNat = 0 := by omega
    have z : sarW x 0 = x := by have := u64_i64_div x 0; simp [u64_i64] at this; exact (UInt64.toNat_inj.1 (by omega)).symm
    go_enter Tryd.func9, Tryd.ntmps9
    go_wp2
    go_ret
    exact ⟨by rw [e, z]; rfl, rfl⟩
  · have e : (min (max k 0) 63) = k := by omega
    rw [e]
    clear e
    go_enter Tryd.func9, Tryd.ntmps9
    go_wp2
    go_ret
    exact ⟨rfl, rfl⟩
  · have e : (min (max k 0) 63).toNat = 63 := by omega
    rw [e]
    clear e
    go_enter Tryd.func9, Tryd.ntmps9
    go_wp2
    go_ret
    exact ⟨rfl, rfl⟩
set_option maxRecDepth 100000 in
theorem Less_any (x y : UInt64) (w : World) :
    Calls Tryd.prog 10 #[U x, U y] w fun e w' => e = .returned (U (oneW (sltW x y))) ∧ w = w' := by
  go_enter Tryd.func10, Tryd.ntmps10
  go_wp2
  all_goals (go_ret; exact ⟨by simp [oneW, *], rfl⟩)
set_option maxRecDepth 100000 in
theorem Double_any (a b : UInt64) (w : World)  :
    Calls Tryd.prog 11 #[.agg #[U a, U b]] w fun e w' => e = .returned (.agg #[U (dblLo a b), U (dblHi a b)]) ∧ Below w.heap.size w w' := by
  go_enter Tryd.func11, Tryd.ntmps11
  go_wp2
  all_goals exact bodyPost_ret (v := .agg #[U (dblLo a b), U (dblHi a b)]) (by simp [results, Tryd.results11, go_sem, dblLo, dblHi, *]) rfl ⟨rfl, (((Below.refl _ _).alloc (Nat.le_refl _) _).alloc (by simp) _).alloc (by simp; omega) _⟩
end Go.Proofs.YtpjhbdhpphgldaaDoor
