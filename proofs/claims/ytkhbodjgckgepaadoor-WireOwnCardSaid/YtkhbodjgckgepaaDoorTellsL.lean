/-
  Two texts that differ in one byte have digests that differ: plain lemmas. A byte of a row of the call's own is set.
-/
import Derived.Test.YtkhbodjgckgepaaDoorDigR
import Derived.Test.YtkhbodjgckgepaaDoorApp
namespace Go.Proofs.YtkhbodjgckgepaaDoor
set_option linter.unusedVariables false
set_option linter.unusedSimpArgs false
open Go.RowKit
def xorB (x y : UInt8) : UInt8 := x ^^^ y
theorem u8_xor (x y : UInt8) : bits .xor .u8 (x.toNat : Int) (y.toNat : Int) = ((xorB x y).toNat : Int) := by
  show IntKind.u8.wrap ((BitVec.ofInt 8 (x.toNat : Int) ^^^ BitVec.ofInt 8 (y.toNat : Int)).toNat : Int) = _
  have hx := x.toNat_lt
  have hy := y.toNat_lt
  have e1 : (BitVec.ofInt 8 (x.toNat : Int)).toNat = x.toNat := by rw [BitVec.ofInt_natCast, BitVec.toNat_ofNat]; omega
  have e2 : (BitVec.ofInt 8 (y.toNat : Int)).toNat = y.toNat := by rw [BitVec.ofInt_natCast, BitVec.toNat_ofNat]; omega
  have h3 : x.toNat ^^^ y.toNat < 2 ^ 8 := Nat.xor_lt_two_pow hx hy
  have h4 : (xorB x y).toNat = x.toNat ^^^ y.toNat := UInt8.toNat_xor x y
  rw [BitVec.toNat_xor, e1, e2, h4, wrap8]
  omega
theorem xorB_same (x y : UInt8) : (x = xorB x y) ↔ y = 0 := by
  unfold xorB
  constructor
  · intro h
    have h2 : x ^^^ x = x ^^^ (x ^^^ y) := congrArg (x ^^^ ·) h
    rw [UInt8.xor_self, ← UInt8.xor_assoc, UInt8.xor_self, UInt8.zero_xor] at h2
    exact h2.symm
  · rintro rfl
    rw [UInt8.xor_zero]
theorem mulP_inj {x y : UInt64} (h : mulP x = mulP y) : x = y := by
  unfold mulP at h
  have h2 : x * 1099511628211 * 14886173955864302971 = y * 1099511628211 * 14886173955864302971 := by rw [h]
  rw [UInt64.mul_assoc, UInt64.mul_assoc] at h2
  have e : (1099511628211 * 14886173955864302971 : UInt64) = 1 := by decide
  rw [e, UInt64.mul_one, UInt64.mul_one] at h2
  exact h2
theorem xorW_right {x y z : UInt64} (h : xorW x z = xorW y z) : x = y := by
  unfold xorW at h
  have h2 : (x ^^^ z) ^^^ z = (y ^^^ z) ^^^ z := by rw [h]
  rw [UInt64.xor_assoc, UInt64.xor_assoc, UInt64.xor_self, UInt64.xor_zero, UInt64.xor_zero] at h2
  exact h2
theorem xorW_left {x y z : UInt64} (h : xorW z x = xorW z y) : x = y := by
  unfold xorW at h
  have h2 : z ^^^ (z ^^^ x) = z ^^^ (z ^^^ y) := by rw [h]
  rw [← UInt64.xor_assoc, ← UInt64.xor_assoc, UInt64.xor_self, UInt64.zero_xor, UInt64.zero_xor] at h2
  exact h2
theorem wide8_inj {c d : UInt8} (h : wide8 c = wide8 d) : c = d := by
  have h2 := congrArg UInt64.toNat h
  rw [wide8_nat, wide8_nat] at h2
  exact UInt8.toNat_inj.1 h2
theorem digS_d {a b : UInt64} {c : UInt8} (h : digS a c = digS b c) : a = b := xorW_right (mulP_inj h)
theorem digS_c {a : UInt64} {c d : UInt8} (h : digS a c = digS a d) : c = d := wide8_inj (xorW_left (mulP_inj h))
theorem fold_inj (l : List UInt8) : ∀ {a b : UInt64}, l.foldl digS a = l.foldl digS b → a = b := by
  induction l with
  | nil => exact id
  | cons c l ih => intro a b h; exact digS_d (ih h)
theorem dig_tells (k : Nat) (l : List UInt8) {i : Nat} (h : i < l.length) (turn : UInt8) :
    (((dig k l).toNat : Int) == ((dig k (l.set i (xorB (nthB l i) turn))).toNat : Int)) = ((turn.toNat : Int) == 0) := by
  rw [u64_beq, Bool.eq_iff_iff, beq_iff_eq, beq_iff_eq]
  have hs : l.set i (xorB (nthB l i) turn) = l.take i ++ xorB (nthB l i) turn :: l.drop (i + 1) := by rw [List.set_eq_take_append_cons_drop, if_pos h]
  have hl : l = l.take i ++ nthB l i :: l.drop (i + 1) := by
    rw [nthB_pos l h, ← List.drop_eq_getElem_cons h, List.take_append_drop]
  have e1 : dig k l = (l.drop (i + 1)).foldl digS (digS ((l.take i).foldl digS (dgK k)) (nthB l i)) := by
    unfold dig
    conv => lhs; rw [hl]
    rw [List.foldl_append, List.foldl_cons]
  have e2 : dig k (l.set i (xorB (nthB l i) turn)) = (l.drop (i + 1)).foldl digS (digS ((l.take i).foldl digS (dgK k)) (xorB (nthB l i) turn)) := by
    rw [hs]
    unfold dig
    rw [List.foldl_append, List.foldl_cons]
  rw [e1, e2]
  constructor
  · intro h2
    have := (xorB_same _ _).1 (digS_c (fold_inj _ h2))
    rw [this]; rfl
  · intro h2
    have h3 : turn = 0 := UInt8.toNat_inj.1 (by simpa using h2)
    rw [← (xorB_same (nthB l i) turn).2 h3]
attribute [irreducible] xorB
theorem idx_in (n : Nat) (h0 : n ≠ 0) (h : n ≤ 140737488351232) (x : Int) : ∃ i : Nat, i < n ∧ wrap64 ((IntKind.u64.wrap x).tmod (n : Int)) = (i : Int) := by
  rw [wrapN]
  have h1 : 0 ≤ x % 18446744073709551616 := Int.emod_nonneg _ (by omega)
  rw [Int.tmod_eq_emod_of_nonneg h1]
  have h2 : 0 ≤ x % 18446744073709551616 % (n : Int) := Int.emod_nonneg _ (by omega)
  have h3 : x % 18446744073709551616 % (n : Int) < n := Int.emod_lt_of_pos _ (by omega)
  refine ⟨(x % 18446744073709551616 % (n : Int)).toNat, by omega, ?_⟩
  unfold wrap64
  generalize x % 18446744073709551616 % (n : Int) = m at *
  omega
theorem Own.set {w : World} {base cap g : Nat} {e : TypeId} {xs : List Value} (h : Own w base e (some ⟨g, 0, none⟩) cap xs) (i : Nat) (hi : i < xs.length) (v : Value) : Own (w.setCell ⟨g, i, none⟩ v) base e (some ⟨g, 0, none⟩) cap (xs.set i v) := by
  rcases h.form with ⟨h1, _⟩ | ⟨g', cur, h1, hb, hg, h2, h3, h4, h5⟩
  · cases h1
  · injection h1 with h1
    injection h1 with h1
    subst h1
    refine ⟨by simp, .inr ⟨g, cap, cur.set! i v, by simp, hb, ?_, by simpa using h2, h3, ?_, ?_⟩⟩
    · simp [World.setCell, Array.getElem?_modify, hg]
    · simpa using h4
    · have h6 := congrArg (fun l => l.set i v) h5
      simp only [List.length_set, Nat.mul_one]
      rw [← h6, Array.set!_eq_setIfInBounds, Array.toList_setIfInBounds, List.take_set]
end Go.Proofs.YtkhbodjgckgepaaDoor
