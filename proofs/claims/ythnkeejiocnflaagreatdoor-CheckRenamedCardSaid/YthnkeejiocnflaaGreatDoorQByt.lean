/-
  Bytes as Lean's own words; numbers in their one form (seven bits a byte): plain lemmas, no program.
-/
import Derived.Test.YthnkeejiocnflaaGreatDoorQNum
namespace Go.Proofs.YthnkeejiocnflaaGreatDoor
set_option linter.unusedVariables false
set_option linter.unusedSimpArgs false
open Go.RowKit

/-- A byte as a value. -/
abbrev V8 (x : UInt8) : Value := .int .u8 (x.toNat : Int)
/-- The low byte of a number. -/
def byteN (n : Nat) : UInt8 := UInt8.ofNat n
theorem wrap8 (n : Int) : IntKind.u8.wrap n = n % 256 := by
  simp [IntKind.wrap, IntKind.bits, IntKind.signed]
theorem u8_wrapN (n : Nat) : IntKind.u8.wrap (n : Int) = ((byteN n).toNat : Int) := by
  unfold byteN; rw [wrap8, UInt8.toNat_ofNat']; omega
theorem byteN_lt (n : Nat) : (byteN n).toNat < 256 := UInt8.toNat_lt _
theorem byteN_nat (n : Nat) : (byteN n).toNat = n % 256 := by unfold byteN; rw [UInt8.toNat_ofNat']
theorem byteN_of (x : UInt8) : byteN x.toNat = x := by
  apply UInt8.toNat_inj.1; rw [byteN_nat]; have := x.toNat_lt; omega

/-- A number's bytes, seven bits each, the low ones first; all but the last with 128 added. -/
def numB (n : Nat) : List UInt8 := if h : n < 128 then [byteN n] else byteN (n % 128 + 128) :: numB (n / 128)
termination_by n
decreasing_by omega
theorem numB_small {n : Nat} (h : n < 128) : numB n = [byteN n] := by rw [numB, dif_pos h]
theorem numB_big {n : Nat} (h : ¬ n < 128) : numB n = byteN (n % 128 + 128) :: numB (n / 128) := by rw [numB, dif_neg h]
theorem numB_length (n : Nat) (h : n ≤ 4294967295) : 1 ≤ (numB n).length ∧ (numB n).length ≤ 5 := by
  rw [numB]
  split
  · simp
  · rw [List.length_cons, numB]
    split
    · simp
    · rw [List.length_cons, numB]
      split
      · simp
      · rw [List.length_cons, numB]
        split
        · simp
        · rw [List.length_cons, numB_small (by omega)]
          simp
/-- What stands in bytes, seven bits each. -/
def valB : List UInt8 → Nat
  | [] => 0
  | c :: r => c.toNat % 128 + 128 * valB r
theorem valB_nil : valB [] = 0 := rfl
theorem valB_cons (c : UInt8) (r : List UInt8) : valB (c :: r) = c.toNat % 128 + 128 * valB r := rfl
theorem valB_numB (n : Nat) : valB (numB n) = n := by
  induction n using Nat.strongRecOn with
  | ind n ih =>
    by_cases h : n < 128
    · rw [numB_small h, valB_cons, valB_nil, byteN_nat]; omega
    · rw [numB_big h, valB_cons, ih (n / 128) (by omega), byteN_nat]; omega
/-- Bytes of which all but the last have 128, and the last not. -/
def runB : List UInt8 → Prop
  | [] => False
  | [c] => c.toNat < 128
  | c :: r => 128 ≤ c.toNat ∧ runB r
theorem numB_inj {m n : Nat} (h : numB m = numB n) : m = n := by rw [← valB_numB m, h, valB_numB]
theorem valB_zero (l : List UInt8) (c : UInt8) (h : valB (l ++ [c]) = 0) : c.toNat % 128 = 0 := by
  induction l with
  | nil => rw [List.nil_append, valB_cons, valB_nil] at h; omega
  | cons y l ih => rw [List.cons_append, valB_cons] at h; exact ih (by omega)
/-- Just the bytes of such a kind whose last is no nought (but where it is the only one) are a number's bytes. -/
theorem numB_valB (l : List UInt8) (c : UInt8) (hl : ∀ x ∈ l, 128 ≤ x.toNat) (hc : c.toNat < 128) : (numB (valB (l ++ [c])) = l ++ [c]) ↔ (c.toNat ≠ 0 ∨ l = []) := by
  induction l with
  | nil =>
    simp only [List.nil_append, or_true, iff_true]
    rw [valB_cons, valB_nil, numB_small (by omega)]
    congr 1
    apply UInt8.toNat_inj.1
    rw [byteN_nat]; omega
  | cons x l ih =>
    have hx := hl x (by simp)
    have hx2 := x.toNat_lt
    have ih := ih fun y hy => hl y (List.mem_cons_of_mem _ hy)
    rw [List.cons_append, valB_cons]
    by_cases hz : valB (l ++ [c]) = 0
    · have hc0 : c.toNat = 0 := by
        have := valB_zero l c hz
        omega
      rw [hz, numB_small (by omega)]
      constructor
      · intro h
        have := congrArg List.length h
        simp at this
      · rintro (h | h)
        · exact absurd hc0 h
        · cases h
    · have hbig : ¬ (x.toNat % 128 + 128 * valB (l ++ [c])) < 128 := by omega
      rw [numB_big hbig]
      have e1 : (x.toNat % 128 + 128 * valB (l ++ [c])) / 128 = valB (l ++ [c]) := by omega
      have e2 : byteN ((x.toNat % 128 + 128 * valB (l ++ [c])) % 128 + 128) = x := by
        apply UInt8.toNat_inj.1
        rw [byteN_nat]; omega
      rw [e1, e2]
      constructor
      · intro h
        injection h with _ h
        rcases ih.1 h with h2 | h2
        · exact .inl h2
        · subst h2
          rw [List.nil_append, valB_cons, valB_nil] at hz
          left; omega
      · rintro (h | h)
        · rw [ih.2 (.inl h)]
        · cases h
attribute [irreducible] byteN
end Go.Proofs.YthnkeejiocnflaaGreatDoor
