/-
  Walks of wire.TakeNumber and of the document's.
-/
import Derived.Test.YtkhbodjgckgepaaDoorWireA
import Derived.Test.YtkhbodjgckgepaaDoorTakeL
import Derived.BigQuiet
import Derived.Deep.QuietTactic
import Derived.Deep.RegionWith
namespace Go.Proofs.YtkhbodjgckgepaaDoor
set_option linter.unusedVariables false
set_option linter.unusedSimpArgs false
open Go.RowKit
theorem u8_and127 (c : UInt8) : bits .and .u8 (c.toNat : Int) 127 = ((c.toNat % 128 : Nat) : Int) := by
  have h : ∀ k : Fin 256, bits .and .u8 ((k.val : Nat) : Int) 127 = ((k.val % 128 : Nat) : Int) := by decide +kernel
  exact h ⟨c.toNat, c.toNat_lt⟩
theorem ofInt_i64 (a : Nat) (ha : a < 9223372036854775808) : (BitVec.ofInt 64 (a : Int)).toNat = a := by
  rw [BitVec.ofInt_natCast, BitVec.toNat_ofNat]; exact Nat.mod_eq_of_lt (by omega)
theorem i64_or (a b : Nat) (ha : a < 9223372036854775808) (hb : b < 9223372036854775808) : bits .or .i64 (a : Int) (b : Int) = ((a ||| b : Nat) : Int) := by
  have hx : a ||| b < 2 ^ 63 := Nat.or_lt_two_pow (by omega) (by omega)
  show IntKind.i64.wrap ((BitVec.ofInt 64 (a : Int) ||| BitVec.ofInt 64 (b : Int)).toNat : Int) = _
  rw [BitVec.toNat_or, ofInt_i64 a ha, ofInt_i64 b hb, IntKind.wrap_i64]
  omega
/-- What the first k bytes say. -/
def curN (l : List UInt8) (k : Nat) : Nat := valB (l.take k)
theorem cur_or (l : List UInt8) {k : Nat} (h : k < l.length) (h5 : k < 5) : bits .or .i64 (curN l k : Int) ((nthB l k).toNat % 128 * 128 ^ k : Nat) = (curN l (k + 1) : Int) := by
  have h1 := valB_lt (l.take k)
  rw [List.length_take, Nat.min_eq_left (by omega)] at h1
  have h2 := valB_take l h
  have h3 : (nthB l k).toNat % 128 < 128 := Nat.mod_lt _ (by omega)
  have hp : (128 : Nat) ^ k ≤ 128 ^ 4 := Nat.pow_le_pow_right (by omega) (by omega)
  have hm : (nthB l k).toNat % 128 * 128 ^ k ≤ 127 * 128 ^ 4 := Nat.mul_le_mul (by omega) hp
  unfold curN
  rw [i64_or _ _ (by omega) (by omega), h2]
  congr 1
  have hpow : (128 : Nat) ^ k = 2 ^ (7 * k) := by rw [Nat.pow_mul]
  rw [hpow] at h1 ⊢
  have := Nat.two_pow_add_eq_or_of_lt h1 ((nthB l k).toNat % 128)
  rw [Nat.or_comm, Nat.mul_comm, ← this]
  omega
theorem cur_or0 (l : List UInt8) (h : 0 < l.length) : bits .or .i64 (curN l 0 : Int) ((nthB l 0).toNat % 128) = (curN l 1 : Int) := by
  have := cur_or l h (by omega)
  rw [Nat.pow_zero, Nat.mul_one] at this
  exact this
theorem cur_or1 (l : List UInt8) (h : 1 < l.length) : bits .or .i64 (curN l 1 : Int) ((nthB l 1).toNat % 128 * 128) = (curN l 2 : Int) := cur_or l h (by omega)
theorem cur_or2 (l : List UInt8) (h : 2 < l.length) : bits .or .i64 (curN l 2 : Int) ((nthB l 2).toNat % 128 * 16384) = (curN l 3 : Int) := cur_or l h (by omega)
theorem cur_or3 (l : List UInt8) (h : 3 < l.length) : bits .or .i64 (curN l 3 : Int) ((nthB l 3).toNat % 128 * 2097152) = (curN l 4 : Int) := cur_or l h (by omega)
theorem cur_or4 (l : List UInt8) (h : 4 < l.length) : bits .or .i64 (curN l 4 : Int) ((nthB l 4).toNat % 128 * 268435456) = (curN l 5 : Int) := cur_or l h (by omega)
theorem cur_zero (l : List UInt8) : curN l 0 = 0 := rfl
theorem takeB_at' {l : List UInt8} (i : Nat) (hj : ∀ j, j < i → 128 ≤ (nthB l j).toNat) (hi : i < 5) (hl : i < l.length) (hc : (nthB l i).toNat < 128) :
    takeB l = if 4294967295 < curN l (i + 1) ∨ ((nthB l i).toNat = 0 ∧ 0 < i) then (0, 0) else (curN l (i + 1), i + 1) := takeB_at i hj hi hl hc
theorem takeB_bad {l : List UInt8} (i : Nat) (hj : ∀ j, j < i → 128 ≤ (nthB l j).toNat) (hi : i < 5) (hl : i < l.length) (hc : (nthB l i).toNat < 128) (h : 4294967295 < curN l (i + 1) ∨ ((nthB l i).toNat = 0 ∧ 0 < i)) : takeB l = (0, 0) := by
  rw [takeB_at' i hj hi hl hc, if_pos h]
theorem takeB_good {l : List UInt8} (i : Nat) (hj : ∀ j, j < i → 128 ≤ (nthB l j).toNat) (hi : i < 5) (hl : i < l.length) (hc : (nthB l i).toNat < 128) (h : ¬ (4294967295 < curN l (i + 1) ∨ ((nthB l i).toNat = 0 ∧ 0 < i))) : takeB l = (curN l (i + 1), i + 1) := by
  rw [takeB_at' i hj hi hl hc, if_neg h]
attribute [irreducible] curN
def TakeRel (l : List UInt8) (nv iv : Value) : Prop :=
  ∃ k : Nat, k ≤ 5 ∧ k ≤ l.length ∧ iv = .int .i64 k ∧ nv = .int .i64 (curN l k) ∧ ∀ j, j < k → 128 ≤ (nthB l j).toNat
def TakeOut (l : List UInt8) (w : World) (e : Ending) (w' : World) : Prop := e = .returned (.tuple #[.int .i64 (takeB l).1, .int .i64 (takeB l).2]) ∧ w = w'
theorem TakeOut.none_ {l : List UInt8} {w : World} (h : takeB l = (0, 0)) : TakeOut l w (.returned (.tuple #[.int .i64 0, .int .i64 0])) w := by
  unfold TakeOut; rw [h]; exact ⟨rfl, rfl⟩
theorem TakeOut.some_ {l : List UInt8} {w : World} {n i : Nat} {m : Int} (h : takeB l = (n, i)) (hm : m = i) : TakeOut l w (.returned (.tuple #[.int .i64 n, .int .i64 m])) w := by
  subst hm; unfold TakeOut; rw [h]; exact ⟨rfl, rfl⟩
attribute [local go_sem ↓] u8_and127
set_option maxRecDepth 100000 in
set_option maxHeartbeats 4000000 in
theorem take_any (A : Option Addr) (c : Nat) (l : List UInt8) (B : Nat) (w : World) (hl : l.length ≤ 9223372036854775807) (hA : Rd w B A (l.map V8)) :
    Calls Tryd.prog 16 #[.slice A l.length c] w (TakeOut l w) := by
  go_enter Tryd.func16, Tryd.ntmps16
  go_wp2
  go_loop [4, 9] (fun nv iv => TakeRel l nv iv) (fun _ iv => 5 - (intOf iv).toNat)
  case atStart => exact ⟨0, by omega, by omega, rfl, by rw [cur_zero]; rfl, by omega⟩
  case round =>
    obtain ⟨k, hk5, hkl, rfl, rfl, hj⟩ := hrel
    have HJ := Lib.hid hj
    clear hj
    by_cases hlt : k < l.length
    · obtain ⟨b, o, rfl, hb, hc⟩ := hA.byte hlt
      clear hA
      by_cases h5 : k < 5
      · by_cases hbig : 128 ≤ (nthB l k).toNat
        · have HN : Hid (∀ j, j < k + 1 → 128 ≤ (nthB l j).toNat) := fun j hj => by
            rcases Nat.lt_succ_iff_lt_or_eq.1 hj with h | h
            · exact HJ.out j h
            · rw [h]; exact hbig
          have hT : ((128 : Int) ≤ ((nthB l k).toNat : Int)) := by omega
          rcases (by omega : k = 0 ∨ k = 1 ∨ k = 2 ∨ k = 3 ∨ k = 4) with rfl | rfl | rfl | rfl | rfl
          · have ho := cur_or0 l hlt
            rw [Nat.add_zero] at hc
            go_wp2
            exact ⟨⟨1, by omega, by omega, by go_num, rfl, HN.out⟩, by simp [intOf]⟩
          · have ho := cur_or1 l hlt
            go_wp2
            exact ⟨⟨2, by omega, by omega, by go_num, rfl, HN.out⟩, by simp [intOf]⟩
          · have ho := cur_or2 l hlt
            go_wp2
            exact ⟨⟨3, by omega, by omega, by go_num, rfl, HN.out⟩, by simp [intOf]⟩
          · have ho := cur_or3 l hlt
            go_wp2
            exact ⟨⟨4, by omega, by omega, by go_num, rfl, HN.out⟩, by simp [intOf]⟩
          · have ho := cur_or4 l hlt
            go_wp2
            exact ⟨⟨5, by omega, by omega, by go_num, rfl, HN.out⟩, by simp [intOf]⟩
        · have hsm : (nthB l k).toNat < 128 := by omega
          have hT : ¬ ((128 : Int) ≤ ((nthB l k).toNat : Int)) := by omega
          have HB := Lib.hid (takeB_bad k HJ.out h5 hlt hsm)
          have HG := Lib.hid (takeB_good k HJ.out h5 hlt hsm)
          rcases (by omega : k = 0 ∨ k = 1 ∨ k = 2 ∨ k = 3 ∨ k = 4) with rfl | rfl | rfl | rfl | rfl
          · have ho := cur_or0 l hlt
            rw [Nat.add_zero] at hc
            by_cases h1 : 4294967295 < curN l 1
            · have q1 : decide ((4294967295 : Int) < (curN l 1 : Int)) = true := by simp; omega
              go_wp2
              go_ret2
              exact TakeOut.none_ (HB.out (.inl h1))
            · have q1 : decide ((4294967295 : Int) < (curN l 1 : Int)) = false := by simp; omega
              go_wp2
              all_goals
                go_ret2
                exact TakeOut.some_ (HG.out (fun h => by rcases h with h | h; exact h1 h; omega)) rfl
          · have ho := cur_or1 l hlt
            by_cases h1 : 4294967295 < curN l 2
            · have q1 : decide ((4294967295 : Int) < (curN l 2 : Int)) = true := by simp; omega
              go_wp2
              go_ret2
              exact TakeOut.none_ (HB.out (.inl h1))
            · have q1 : decide ((4294967295 : Int) < (curN l 2 : Int)) = false := by simp; omega
              by_cases h2 : (nthB l 1).toNat = 0
              · have q2 : (((nthB l 1).toNat : Int) == 0) = true := by rw [h2]; rfl
                have q3 := Lib.hid h2
                clear h2
                go_wp2
                go_ret2
                exact TakeOut.none_ (HB.out (.inr ⟨q3.out, by omega⟩))
              · have q2 : (((nthB l 1).toNat : Int) == 0) = false := by rw [beq_eq_false_iff_ne]; omega
                have q3 := Lib.hid h2
                clear h2
                go_wp2
                go_ret2
                exact TakeOut.some_ (HG.out (fun h => by rcases h with h | h; exact h1 h; exact q3.out h.1)) rfl
          · have ho := cur_or2 l hlt
            by_cases h1 : 4294967295 < curN l 3
            · have q1 : decide ((4294967295 : Int) < (curN l 3 : Int)) = true := by simp; omega
              go_wp2
              go_ret2
              exact TakeOut.none_ (HB.out (.inl h1))
            · have q1 : decide ((4294967295 : Int) < (curN l 3 : Int)) = false := by simp; omega
              by_cases h2 : (nthB l 2).toNat = 0
              · have q2 : (((nthB l 2).toNat : Int) == 0) = true := by rw [h2]; rfl
                have q3 := Lib.hid h2
                clear h2
                go_wp2
                go_ret2
                exact TakeOut.none_ (HB.out (.inr ⟨q3.out, by omega⟩))
              · have q2 : (((nthB l 2).toNat : Int) == 0) = false := by rw [beq_eq_false_iff_ne]; omega
                have q3 := Lib.hid h2
                clear h2
                go_wp2
                go_ret2
                exact TakeOut.some_ (HG.out (fun h => by rcases h with h | h; exact h1 h; exact q3.out h.1)) rfl
          · have ho := cur_or3 l hlt
            by_cases h1 : 4294967295 < curN l 4
            · have q1 : decide ((4294967295 : Int) < (curN l 4 : Int)) = true := by simp; omega
              go_wp2
              go_ret2
              exact TakeOut.none_ (HB.out (.inl h1))
            · have q1 : decide ((4294967295 : Int) < (curN l 4 : Int)) = false := by simp; omega
              by_cases h2 : (nthB l 3).toNat = 0
              · have q2 : (((nthB l 3).toNat : Int) == 0) = true := by rw [h2]; rfl
                have q3 := Lib.hid h2
                clear h2
                go_wp2
                go_ret2
                exact TakeOut.none_ (HB.out (.inr ⟨q3.out, by omega⟩))
              · have q2 : (((nthB l 3).toNat : Int) == 0) = false := by rw [beq_eq_false_iff_ne]; omega
                have q3 := Lib.hid h2
                clear h2
                go_wp2
                go_ret2
                exact TakeOut.some_ (HG.out (fun h => by rcases h with h | h; exact h1 h; exact q3.out h.1)) rfl
          · have ho := cur_or4 l hlt
            by_cases h1 : 4294967295 < curN l 5
            · have q1 : decide ((4294967295 : Int) < (curN l 5 : Int)) = true := by simp; omega
              go_wp2
              go_ret2
              exact TakeOut.none_ (HB.out (.inl h1))
            · have q1 : decide ((4294967295 : Int) < (curN l 5 : Int)) = false := by simp; omega
              by_cases h2 : (nthB l 4).toNat = 0
              · have q2 : (((nthB l 4).toNat : Int) == 0) = true := by rw [h2]; rfl
                have q3 := Lib.hid h2
                clear h2
                go_wp2
                go_ret2
                exact TakeOut.none_ (HB.out (.inr ⟨q3.out, by omega⟩))
              · have q2 : (((nthB l 4).toNat : Int) == 0) = false := by rw [beq_eq_false_iff_ne]; omega
                have q3 := Lib.hid h2
                clear h2
                go_wp2
                go_ret2
                exact TakeOut.some_ (HG.out (fun h => by rcases h with h | h; exact h1 h; exact q3.out h.1)) rfl
      · obtain rfl : k = 5 := by omega
        have HT := Lib.hid (takeB_none 5 HJ.out (by omega) (by omega) (.inl rfl))
        go_wp2
        go_ret2
        exact TakeOut.none_ HT.out
    · obtain rfl : k = l.length := by omega
      have HT := Lib.hid (takeB_none l.length HJ.out (by omega) (by omega) (.inr rfl))
      go_wp2
      go_ret2
      exact TakeOut.none_ HT.out
end Go.Proofs.YtkhbodjgckgepaaDoor
