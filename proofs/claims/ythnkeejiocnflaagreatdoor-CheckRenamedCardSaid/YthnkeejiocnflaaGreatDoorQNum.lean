/-
  Numbers of the kind u64 as Lean's own words: plain lemmas, no program. The operations are kept behind irreducible names, so that a walk does not open them.
-/
import Derived.WalkKit
import Derived.WalkSpells
import Derived.WalkLawsBesides
import Derived.OpenShut
namespace Go.Proofs.YthnkeejiocnflaaGreatDoor
set_option linter.unusedVariables false
set_option linter.unusedSimpArgs false
open Go.RowKit

/-- A word as a value. -/
abbrev U (x : UInt64) : Value := .int .u64 (x.toNat : Int)

def addW (x y : UInt64) : UInt64 := x + y
def subW (x y : UInt64) : UInt64 := x - y
def mulW (x y : UInt64) : UInt64 := x * y
def negW (x : UInt64) : UInt64 := -x
def xorW (x y : UInt64) : UInt64 := x ^^^ y
def andW (x y : UInt64) : UInt64 := x &&& y
def orW (x y : UInt64) : UInt64 := x ||| y
def shlW (x n : UInt64) : UInt64 := x <<< n
def shrW (x n : UInt64) : UInt64 := x >>> n
def ltW (x y : UInt64) : Bool := decide (x < y)
def up63 (x : UInt64) : UInt64 := x + 9223372036854775808

theorem wrapN (n : Int) : IntKind.u64.wrap n = n % 18446744073709551616 := by
  simp [IntKind.wrap, IntKind.bits, IntKind.signed]

theorem u64_add (x y : UInt64) : IntKind.u64.wrap ((x.toNat : Int) + (y.toNat : Int)) = ((addW x y).toNat : Int) := by
  unfold addW; rw [wrapN, UInt64.toNat_add]; omega
theorem u64_mul (x y : UInt64) : IntKind.u64.wrap ((x.toNat : Int) * (y.toNat : Int)) = ((mulW x y).toNat : Int) := by
  unfold mulW; rw [wrapN, UInt64.toNat_mul, ← Int.natCast_mul]; omega
theorem u64_sub (x y : UInt64) : IntKind.u64.wrap ((x.toNat : Int) - (y.toNat : Int)) = ((subW x y).toNat : Int) := by
  have := x.toNat_lt; have := y.toNat_lt
  unfold subW; rw [wrapN, UInt64.toNat_sub]; omega
theorem u64_neg (x : UInt64) : IntKind.u64.wrap (-(x.toNat : Int)) = ((negW x).toNat : Int) := by
  have := x.toNat_lt
  unfold negW; rw [wrapN, UInt64.toNat_neg]; simp only [UInt64.size]; omega
theorem u64_beq (x y : UInt64) : (((x.toNat : Int)) == ((y.toNat : Int))) = (x == y) := by
  rw [Bool.eq_iff_iff, beq_iff_eq, beq_iff_eq, ← UInt64.toNat_inj]; omega
theorem u64_bne (x y : UInt64) : (((x.toNat : Int)) != ((y.toNat : Int))) = (x != y) := by
  unfold bne; rw [u64_beq]
theorem u64_lt (x y : UInt64) : decide (((x.toNat : Int)) < ((y.toNat : Int))) = ltW x y := by
  unfold ltW; rw [decide_eq_decide, UInt64.lt_iff_toNat_lt]; omega
theorem ofInt_toNat (x : UInt64) : BitVec.ofInt 64 (x.toNat : Int) = x.toBitVec := by
  rw [BitVec.ofInt_natCast]
  apply BitVec.eq_of_toNat_eq
  simp
theorem u64_xor (x y : UInt64) : bits .xor .u64 (x.toNat : Int) (y.toNat : Int) = ((xorW x y).toNat : Int) := by
  show IntKind.u64.wrap ((BitVec.ofInt 64 (x.toNat : Int) ^^^ BitVec.ofInt 64 (y.toNat : Int)).toNat : Int) = _
  rw [ofInt_toNat, ofInt_toNat, wrapN]
  have : (xorW x y).toNat = (x.toBitVec ^^^ y.toBitVec).toNat := rfl
  rw [this]
  have := (x.toBitVec ^^^ y.toBitVec).isLt
  omega
theorem u64_and (x y : UInt64) : bits .and .u64 (x.toNat : Int) (y.toNat : Int) = ((andW x y).toNat : Int) := by
  show IntKind.u64.wrap ((BitVec.ofInt 64 (x.toNat : Int) &&& BitVec.ofInt 64 (y.toNat : Int)).toNat : Int) = _
  rw [ofInt_toNat, ofInt_toNat, wrapN]
  have : (andW x y).toNat = (x.toBitVec &&& y.toBitVec).toNat := rfl
  rw [this]
  have := (x.toBitVec &&& y.toBitVec).isLt
  omega
theorem u64_or (x y : UInt64) : bits .or .u64 (x.toNat : Int) (y.toNat : Int) = ((orW x y).toNat : Int) := by
  show IntKind.u64.wrap ((BitVec.ofInt 64 (x.toNat : Int) ||| BitVec.ofInt 64 (y.toNat : Int)).toNat : Int) = _
  rw [ofInt_toNat, ofInt_toNat, wrapN]
  have : (orW x y).toNat = (x.toBitVec ||| y.toBitVec).toNat := rfl
  rw [this]
  have := (x.toBitVec ||| y.toBitVec).isLt
  omega
theorem wf_u64 (x : UInt64) : (Lit.int .u64 (x.toNat : Int)).wf = true := by
  have := x.toNat_lt
  exact WalkArith.wf_u64 (by omega)
/-- Every number of the kind is a word. -/
theorem of_u64 {n : Int} (h : (Lit.int .u64 n).wf = true) : ∃ x : UInt64, n = (x.toNat : Int) := by
  have hb : 0 ≤ n ∧ n ≤ 18446744073709551615 := Go.bounds_u64 h
  refine ⟨UInt64.ofNat n.toNat, ?_⟩
  rw [UInt64.toNat_ofNat_of_lt' (by simp only [UInt64.size]; omega)]; omega

/-! Literals. -/
theorem u64_up63 (x : UInt64) : IntKind.u64.wrap ((x.toNat : Int) + 9223372036854775808) = ((up63 x).toNat : Int) := u64_add x 9223372036854775808
theorem u64_dbl (x : UInt64) : IntKind.u64.wrap ((x.toNat : Int) * 2) = ((shlW x 1).toNat : Int) := by
  unfold shlW; rw [wrapN, UInt64.toNat_shiftLeft]; simp [Nat.shiftLeft_eq]
theorem u64_dbl' (x : UInt64) : IntKind.u64.wrap (2 * (x.toNat : Int)) = ((shlW x 1).toNat : Int) := by rw [Int.mul_comm, u64_dbl]
theorem u64_div63 (x : UInt64) : ((x.toNat : Int) / 9223372036854775808) = ((shrW x 63).toNat : Int) := by
  unfold shrW; rw [UInt64.toNat_shiftRight]; simp [Nat.shiftRight_eq_div_pow]
theorem u64_div2 (x : UInt64) : ((x.toNat : Int) / 2) = ((shrW x 1).toNat : Int) := by
  unfold shrW; rw [UInt64.toNat_shiftRight]; simp [Nat.shiftRight_eq_div_pow]
theorem u64_tdiv63 (x : UInt64) : ((x.toNat : Int).tdiv 9223372036854775808) = ((shrW x 63).toNat : Int) := by
  rw [← u64_div63, Int.tdiv_eq_ediv_of_nonneg (by omega)]
theorem u64_tdiv2 (x : UInt64) : ((x.toNat : Int).tdiv 2) = ((shrW x 1).toNat : Int) := by
  rw [← u64_div2, Int.tdiv_eq_ediv_of_nonneg (by omega)]
theorem u64_wrap (x : UInt64) : IntKind.u64.wrap (x.toNat : Int) = (x.toNat : Int) := by
  have := x.toNat_lt
  rw [wrapN]; omega
theorem u64_and1 (x : UInt64) : bits .and .u64 (x.toNat : Int) 1 = ((andW x 1).toNat : Int) := u64_and x 1
theorem u64_mod2 (x : UInt64) : ((x.toNat : Int) % 2) = ((andW x 1).toNat : Int) := by
  have h : (andW x 1).toNat = x.toNat &&& 1 := UInt64.toNat_and x 1
  rw [h, Nat.and_one_is_mod]; omega
theorem u64_tmod2 (x : UInt64) : ((x.toNat : Int).tmod 2) = ((andW x 1).toNat : Int) := by
  rw [← u64_mod2, Int.tmod_eq_emod_of_nonneg (by omega)]
theorem u64_xor135 (x : UInt64) : bits .xor .u64 (x.toNat : Int) 135 = ((xorW x 135).toNat : Int) := u64_xor x 135
theorem u64_beq1 (x : UInt64) : ((x.toNat : Int) == 1) = (x == 1) := u64_beq x 1
theorem u64_beq0 (x : UInt64) : ((x.toNat : Int) == 0) = (x == 0) := u64_beq x 0
theorem u64_bne0 (x : UInt64) : ((x.toNat : Int) != 0) = (x != 0) := u64_bne x 0
theorem u64_ge63 (x : UInt64) : decide ((9223372036854775808 : Int) ≤ (x.toNat : Int)) = (shrW x 63 == 1) := by
  rw [Bool.eq_iff_iff, decide_eq_true_iff, ← u64_beq1, beq_iff_eq, ← u64_div63]
  have := x.toNat_lt
  omega

/-! Signed. -/
def sI (x : UInt64) : Int := x.toBitVec.toInt
def sarW (x : UInt64) (k : Nat) : UInt64 := ⟨x.toBitVec.sshiftRight k⟩
def sltW (x y : UInt64) : Bool := decide (sI x < sI y)
theorem sI_eq (x : UInt64) : sI x = if x.toNat < 9223372036854775808 then (x.toNat : Int) else (x.toNat : Int) - 18446744073709551616 := by
  unfold sI
  rw [BitVec.toInt_eq_toNat_cond]
  have : x.toBitVec.toNat = x.toNat := rfl
  rw [this]
  split <;> split <;> omega
theorem i64_u64 (x : UInt64) : IntKind.i64.wrap (x.toNat : Int) = sI x := by
  rw [IntKind.wrap_i64, sI_eq]
  have := x.toNat_lt
  split <;> omega
theorem u64_i64_div (x : UInt64) (k : Nat) : IntKind.u64.wrap (sI x / 2 ^ k) = ((sarW x k).toNat : Int) := by
  rw [wrapN]
  have h : (sarW x k).toNat = (x.toBitVec.sshiftRight k).toNat := rfl
  have h2 := BitVec.toInt_sshiftRight (x := x.toBitVec) (n := k)
  rw [Int.shiftRight_eq_div_pow] at h2
  unfold sI
  rw [show ((2 : Int) ^ k) = ((2 ^ k : Nat) : Int) from by simp, ← h2, h]
  rw [BitVec.toInt_eq_toNat_cond]
  have := (x.toBitVec.sshiftRight k).isLt
  split <;> omega
theorem u64_i64_div63 (x : UInt64) : IntKind.u64.wrap (sI x / 9223372036854775808) = ((sarW x 63).toNat : Int) := u64_i64_div x 63
theorem u64_i64 (x : UInt64) : IntKind.u64.wrap (sI x) = (x.toNat : Int) := by
  rw [wrapN, sI_eq]
  have := x.toNat_lt
  split <;> omega
theorem slt_eq (x y : UInt64) : decide (sI x < sI y) = sltW x y := rfl
theorem sI_sar (x : UInt64) (k : Nat) : sI (sarW x k) = sI x / 2 ^ k := by
  have h2 := BitVec.toInt_sshiftRight (x := x.toBitVec) (n := k)
  rw [Int.shiftRight_eq_div_pow] at h2
  have e : ((2 : Int) ^ k) = ((2 ^ k : Nat) : Int) := by simp
  unfold sI sarW
  rw [e]
  exact h2
theorem sI_inj {x y : UInt64} (h : sI x = sI y) : x = y := by
  rw [sI_eq, sI_eq] at h
  have := x.toNat_lt; have := y.toNat_lt
  apply UInt64.toNat_inj.1
  split at h <;> split at h <;> omega
theorem sar_sar (x : UInt64) (j k : Nat) : sarW (sarW x j) k = sarW x (j + k) := by
  apply sI_inj
  rw [sI_sar, sI_sar, sI_sar, Int.pow_add, Int.ediv_ediv_of_nonneg (Int.le_of_lt (Int.pow_pos (by decide)))]
theorem sar_zero (x : UInt64) : sarW x 0 = x := by apply sI_inj; rw [sI_sar]; simp
def mul63 (x : UInt64) : UInt64 := x * 9223372036854775808
theorem u64_mul63 (x : UInt64) : IntKind.u64.wrap ((x.toNat : Int) * 9223372036854775808) = ((mul63 x).toNat : Int) := u64_mul x 9223372036854775808
theorem u64_mul63' (x : UInt64) : IntKind.u64.wrap (9223372036854775808 * (x.toNat : Int)) = ((mul63 x).toNat : Int) := by rw [Int.mul_comm, u64_mul63]
theorem half_word (x : UInt64) : addW (shrW x 1) (mul63 (shrW x 63)) = sarW x 1 := by
  apply sI_inj
  rw [sI_sar, sI_eq, sI_eq]
  have h1 := u64_div2 x
  have h2 := u64_div63 x
  have h3 := u64_mul63 (shrW x 63)
  have h4 := u64_add (shrW x 1) (mul63 (shrW x 63))
  rw [wrapN] at h3 h4
  have := x.toNat_lt
  split <;> split <;> omega
attribute [irreducible] mul63
attribute [irreducible] sI sarW sltW
attribute [irreducible] addW subW mulW negW xorW andW orW shlW shrW ltW up63

end Go.Proofs.YthnkeejiocnflaaGreatDoor
