/-
  Plain laws of labels: doubling is one to one and keeps sums. No program.
-/
import Derived.Test.YtpjhbdhpphgldaaDoorNum
namespace Go.Proofs.YtpjhbdhpphgldaaDoor
set_option linter.unusedVariables false
set_option linter.unusedSimpArgs false
open Go.RowKit
def dblLo (a b : UInt64) : UInt64 := if shrW b 63 == 1 then xorW (shlW a 1) 135 else shlW a 1
def dblHi (a b : UInt64) : UInt64 := orW (shlW b 1) (shrW a 63)
def rdblHi (a b : UInt64) : UInt64 := addW (shlW b 1) (shrW a 63)
theorem nat_shl (a : UInt64) : (shlW a 1).toNat = 2 * (a.toNat % 9223372036854775808) := by
  have h := u64_dbl a
  rw [wrapN] at h
  have := a.toNat_lt
  omega
theorem nat_shr (a : UInt64) : (shrW a 63).toNat = a.toNat / 9223372036854775808 := by
  have h := u64_div63 a
  omega
theorem nat_hi (a b : UInt64) : (dblHi a b).toNat = 2 * (b.toNat % 9223372036854775808) + a.toNat / 9223372036854775808 := by
  have ha := a.toNat_lt
  unfold dblHi
  have : (orW (shlW b 1) (shrW a 63)).toNat = (shlW b 1).toNat ||| (shrW a 63).toNat := by unfold orW; rw [UInt64.toNat_or]
  rw [this, nat_shl, nat_shr]
  have h := Nat.two_pow_add_eq_or_of_lt (i := 1) (b := a.toNat / 9223372036854775808) (by omega) (b.toNat % 9223372036854775808)
  simpa using h.symm
theorem dbl_hi (a b : UInt64) : rdblHi a b = dblHi a b := by
  apply UInt64.toNat_inj.1
  rw [nat_hi]
  unfold rdblHi
  have h := u64_add (shlW b 1) (shrW a 63)
  rw [wrapN, nat_shl, nat_shr] at h
  have := a.toNat_lt; have := b.toNat_lt
  omega
theorem shr_one (b : UInt64) : (shrW b 63 == 1) = decide (b.toNat / 9223372036854775808 = 1) := by
  rw [Bool.eq_iff_iff, beq_iff_eq, decide_eq_true_iff, ← UInt64.toNat_inj, nat_shr]
  rfl
theorem nat_xor (a b : UInt64) : (xorW a b).toNat = a.toNat ^^^ b.toNat := by unfold xorW; rw [UInt64.toNat_xor]
theorem shl_inj {a c : UInt64} (h : shlW a 1 = shlW c 1) : a.toNat % 9223372036854775808 = c.toNat % 9223372036854775808 := by
  have := congrArg UInt64.toNat h
  rw [nat_shl, nat_shl] at this
  omega
theorem odd_lo (x : UInt64) : (xorW (shlW x 1) 135).toNat % 2 = 1 := by
  have h : (xorW (shlW x 1) 135).toNat.testBit 0 = true := by
    rw [nat_xor, Nat.testBit_xor, Nat.testBit_zero, Nat.testBit_zero, nat_shl]
    have e : (2 * (x.toNat % 9223372036854775808)) % 2 = 0 := by omega
    rw [e]
    rfl
  rw [Nat.testBit_zero] at h
  simpa using h
theorem xor_inj {x y : UInt64} (h : xorW x 135 = xorW y 135) : x = y := by
  unfold xorW at h
  have := congrArg (· ^^^ (135 : UInt64)) h
  simpa [UInt64.xor_assoc] using this
theorem dbl_eq (a b c d : UInt64) : (dblLo a b == dblLo c d && dblHi a b == dblHi c d) = (a == c && b == d) := by
  rw [Bool.eq_iff_iff]
  simp only [Bool.and_eq_true, beq_iff_eq]
  constructor
  · rintro ⟨hl, hh⟩
    have h1 := congrArg UInt64.toNat hh
    rw [nat_hi, nat_hi] at h1
    have a1 := a.toNat_lt; have a2 := b.toNat_lt; have a3 := c.toNat_lt; have a4 := d.toNat_lt
    have p1 : b.toNat % 9223372036854775808 = d.toNat % 9223372036854775808 := by omega
    have p2 : a.toNat / 9223372036854775808 = c.toNat / 9223372036854775808 := by omega
    unfold dblLo at hl
    rw [shr_one, shr_one] at hl
    by_cases hb : b.toNat / 9223372036854775808 = 1 <;> by_cases hd : d.toNat / 9223372036854775808 = 1
    · simp only [hb, hd, decide_true, if_true] at hl
      have := shl_inj (xor_inj hl)
      exact ⟨UInt64.toNat_inj.1 (by omega), UInt64.toNat_inj.1 (by omega)⟩
    · simp only [hb, hd, decide_true, if_true, decide_false, Bool.false_eq_true, if_false] at hl
      have h2 := odd_lo a
      rw [hl, nat_shl] at h2
      omega
    · simp only [hb, hd, decide_true, if_true, decide_false, Bool.false_eq_true, if_false] at hl
      have h2 := odd_lo c
      rw [← hl, nat_shl] at h2
      omega
    · simp only [hb, hd, decide_false, Bool.false_eq_true, if_false] at hl
      have := shl_inj hl
      exact ⟨UInt64.toNat_inj.1 (by omega), UInt64.toNat_inj.1 (by omega)⟩
  · rintro ⟨rfl, rfl⟩
    exact ⟨rfl, rfl⟩
theorem shl_xor (a c : UInt64) : shlW (xorW a c) 1 = xorW (shlW a 1) (shlW c 1) := by
  unfold shlW xorW
  apply UInt64.toBitVec_inj.1
  simp [BitVec.shiftLeft_xor_distrib]
theorem shr_xor (a c : UInt64) : shrW (xorW a c) 63 = xorW (shrW a 63) (shrW c 63) := by
  unfold shrW xorW
  apply UInt64.toBitVec_inj.1
  simp [BitVec.ushiftRight_xor_distrib]
theorem shr_cases (b : UInt64) : shrW b 63 = 0 ∨ shrW b 63 = 1 := by
  have h := nat_shr b
  have := b.toNat_lt
  rcases (by omega : b.toNat / 9223372036854775808 = 0 ∨ b.toNat / 9223372036854775808 = 1) with h2 | h2
  · left; apply UInt64.toNat_inj.1; rw [h, h2]; rfl
  · right; apply UInt64.toNat_inj.1; rw [h, h2]; rfl
theorem lo_xor (a b c d : UInt64) : xorW (dblLo a b) (dblLo c d) = dblLo (xorW a c) (xorW b d) := by
  unfold dblLo
  rw [shr_xor, shl_xor]
  have e0 : ((0 : UInt64) == 1) = false := by decide
  have e1 : ((1 : UInt64) == 1) = true := by decide
  rcases shr_cases b with hb | hb <;> rcases shr_cases d with hd | hd <;> rw [hb, hd]
  · have : xorW 0 0 = 0 := by decide +kernel
    simp only [this, e0, Bool.false_eq_true, if_false]
  · have : xorW 0 1 = 1 := by decide +kernel
    simp only [this, e0, e1, Bool.false_eq_true, if_false, if_true]
    unfold xorW; rw [UInt64.xor_assoc]
  · have : xorW 1 0 = 1 := by decide +kernel
    simp only [this, e0, e1, Bool.false_eq_true, if_false, if_true]
    unfold xorW; rw [UInt64.xor_assoc, UInt64.xor_assoc, UInt64.xor_comm 135]
  · have : xorW 1 1 = 0 := by decide +kernel
    simp only [this, e0, e1, Bool.false_eq_true, if_false, if_true]
    unfold xorW
    rw [UInt64.xor_assoc, ← UInt64.xor_assoc 135, UInt64.xor_comm 135, UInt64.xor_assoc (shlW c 1), UInt64.xor_self, UInt64.xor_zero]
theorem hi_xor (a b c d : UInt64) : xorW (dblHi a b) (dblHi c d) = dblHi (xorW a c) (xorW b d) := by
  unfold dblHi
  rw [shr_xor, shl_xor]
  apply UInt64.toNat_inj.1
  have o : ∀ x y : UInt64, (orW x y).toNat = x.toNat ||| y.toNat := fun x y => by unfold orW; rw [UInt64.toNat_or]
  rw [nat_xor, o, o, o, nat_xor, nat_xor]
  apply Nat.eq_of_testBit_eq
  intro i
  have z : ∀ x y : UInt64, ((shlW x 1).toNat.testBit i && (shrW y 63).toNat.testBit i) = false := fun x y => by
    rw [nat_shl, nat_shr]
    have hy := y.toNat_lt
    rcases Nat.eq_zero_or_pos i with h | h
    · subst h
      rw [Nat.testBit_zero]
      have : (2 * (x.toNat % 9223372036854775808)) % 2 = 0 := by omega
      simp [this]
    · have : (y.toNat / 9223372036854775808).testBit i = false := Nat.testBit_lt_two_pow (Nat.lt_of_lt_of_le (by omega : y.toNat / 9223372036854775808 < 2 ^ 1) (Nat.pow_le_pow_right (by omega) h))
      rw [this, Bool.and_false]
  have z1 := z b a
  have z2 := z b c
  have z3 := z d a
  have z4 := z d c
  simp only [Nat.testBit_xor, Nat.testBit_or]
  revert z1 z2 z3 z4
  cases (shlW b 1).toNat.testBit i <;> cases (shrW a 63).toNat.testBit i <;> cases (shlW d 1).toNat.testBit i <;> cases (shrW c 63).toNat.testBit i <;> decide
end Go.Proofs.YtpjhbdhpphgldaaDoor
