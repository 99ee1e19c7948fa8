/-
  The product of two matrices as lists of words, filled in cell by cell: plain lemmas, no program. Plain laws of labels: doubling is one to one and keeps sums. No program. Walks of the ring's plain functions that evaluation reaches. Choices by masks are choices: words alone. No program. Walks of the evaluator's functions of two words. The walk of ring.Mat.
-/
import Derived.Test.YtghlnncfigkkaaaGreatDoorQNum
import Derived.Test.YtghlnncfigkkaaaGreatDoorRows
import Derived.BigQuiet
import Derived.Deep.QuietTactic
import Derived.Deep.OwnRows
namespace Go.Proofs.YtghlnncfigkkaaaGreatDoor
set_option linter.unusedVariables false
set_option linter.unusedSimpArgs false
open Go.RowKit

/-- Lists of words: a change at one place. -/
theorem nthW_oob (l : List UInt64) {k : Nat} (h : l.length ≤ k) : nthW l k = 0 := by
  rw [nthW_eq, List.getD_eq_getElem?_getD, List.getElem?_eq_none h]; rfl
theorem extW {l l' : List UInt64} (hl : l.length = l'.length) (h : ∀ k, k < l.length → nthW l k = nthW l' k) : l = l' := by
  apply List.ext_getElem hl
  intro i h1 h2
  have := h i h1
  rw [nthW_eq, nthW_eq, List.getD_eq_getElem?_getD, List.getD_eq_getElem?_getD, List.getElem?_eq_getElem h1, List.getElem?_eq_getElem h2] at this
  exact this
theorem nthW_range (n : Nat) (f : Nat → UInt64) {k : Nat} (h : k < n) : nthW ((List.range n).map f) k = f k := by
  rw [nthW_eq, List.getD_eq_getElem?_getD, List.getElem?_map, List.getElem?_range h]; rfl
theorem nthW_set_same (l : List UInt64) (k : Nat) (x : UInt64) (h : k < l.length) : nthW (l.set k x) k = x := by
  rw [nthW_eq, List.getD_eq_getElem?_getD, List.getElem?_set_self h]; rfl
theorem nthW_set_other (l : List UInt64) {j k : Nat} (x : UInt64) (h : j ≠ k) : nthW (l.set k x) j = nthW l j := by
  rw [nthW_eq, nthW_eq, List.getD_eq_getElem?_getD, List.getD_eq_getElem?_getD, List.getElem?_set_ne (Ne.symm h)]

def zerosW (n : Nat) : List UInt64 := List.replicate n 0
theorem length_zerosW (n : Nat) : (zerosW n).length = n := by unfold zerosW; simp
theorem nthW_zeros (n k : Nat) : nthW (zerosW n) k = 0 := by
  unfold zerosW
  rw [nthW_eq, List.getD_eq_getElem?_getD, List.getElem?_replicate]
  split <;> rfl
attribute [irreducible] zerosW

def dotW (xs ys : List UInt64) (k n p : Nat) : Nat → UInt64
  | 0 => 0
  | t + 1 => addW (dotW xs ys k n p t) (mulW (nthW xs (p / n * k + t)) (nthW ys (t * n + p % n)))
/-- The product, when r cells are done and t summands of the next. -/
def stW (xs ys : List UInt64) (m k n r t : Nat) : List UInt64 :=
  (List.range (m * n)).map fun p => if p < r then dotW xs ys k n p k else if p = r then dotW xs ys k n p t else 0
def matW (xs ys : List UInt64) (m k n : Nat) : List UInt64 := (List.range (m * n)).map fun p => dotW xs ys k n p k
theorem length_stW (xs ys : List UInt64) (m k n r t : Nat) : (stW xs ys m k n r t).length = m * n := by unfold stW; simp
theorem length_matW (xs ys : List UInt64) (m k n : Nat) : (matW xs ys m k n).length = m * n := by unfold matW; simp
theorem nthW_matW (xs ys : List UInt64) (m k n : Nat) {p : Nat} (h : p < m * n) : nthW (matW xs ys m k n) p = dotW xs ys k n p k := nthW_range _ _ h
theorem stW_start (xs ys : List UInt64) (m k n : Nat) : zerosW (m * n) = stW xs ys m k n 0 0 := by
  apply extW (by rw [length_zerosW, length_stW])
  intro p hp
  rw [length_zerosW] at hp
  unfold stW
  rw [nthW_zeros, nthW_range _ _ hp]
  by_cases h : p = 0 <;> simp [h, dotW]
theorem stW_here (xs ys : List UInt64) (m k n r t : Nat) (h : r < m * n) : nthW (stW xs ys m k n r t) r = dotW xs ys k n r t := by
  unfold stW; rw [nthW_range _ _ h]; simp
theorem stW_step (xs ys : List UInt64) (m k n r t : Nat) (_h : r < m * n) :
    (stW xs ys m k n r t).set r (addW (dotW xs ys k n r t) (mulW (nthW xs (r / n * k + t)) (nthW ys (t * n + r % n)))) = stW xs ys m k n r (t + 1) := by
  apply extW (by rw [List.length_set, length_stW, length_stW])
  intro p hp
  rw [List.length_set, length_stW] at hp
  by_cases hpr : p = r
  · subst hpr
    rw [nthW_set_same _ _ _ (by rw [length_stW]; exact hp), stW_here _ _ _ _ _ _ _ hp]
    rfl
  · rw [nthW_set_other _ _ hpr]
    unfold stW
    rw [nthW_range _ _ hp, nthW_range _ _ hp]
    simp [hpr]
theorem stW_full (xs ys : List UInt64) (m k n r : Nat) : stW xs ys m k n r k = stW xs ys m k n (r + 1) 0 := by
  apply extW (by rw [length_stW, length_stW])
  intro p hp
  rw [length_stW] at hp
  unfold stW
  rw [nthW_range _ _ hp, nthW_range _ _ hp]
  by_cases h1 : p < r
  · rw [if_pos h1, if_pos (by omega)]
  · by_cases h2 : p = r
    · rw [if_neg h1, if_pos h2, if_pos (by omega)]
    · rw [if_neg h1, if_neg h2, if_neg (by omega)]
      by_cases h3 : p = r + 1
      · rw [if_pos h3]; rfl
      · rw [if_neg h3]
theorem stW_end (xs ys : List UInt64) (m k n : Nat) : stW xs ys m k n (m * n) 0 = matW xs ys m k n := by
  apply extW (by rw [length_stW, length_matW])
  intro p hp
  rw [length_stW] at hp
  rw [nthW_matW _ _ _ _ _ hp]
  unfold stW
  rw [nthW_range _ _ hp, if_pos hp]
/-- The step as the code takes it: row i, column j. -/
theorem stW_cell (xs ys : List UInt64) (m k n i j t : Nat) (hi : i < m) (hj : j < n) :
    (stW xs ys m k n (i * n + j) t).set (i * n + j) (addW (nthW (stW xs ys m k n (i * n + j) t) (i * n + j)) (mulW (nthW xs (i * k + t)) (nthW ys (t * n + j)))) = stW xs ys m k n (i * n + j) (t + 1) := by
  have hlt : i * n + j < m * n := by
    have h1 : (i + 1) * n ≤ m * n := Nat.mul_le_mul_right n hi
    rw [Nat.add_mul] at h1
    omega
  have hd : (i * n + j) / n = i := by
    rw [Nat.mul_comm, Nat.mul_add_div (by omega), Nat.div_eq_of_lt hj]; omega
  have hm : (i * n + j) % n = j := by
    rw [Nat.mul_comm, Nat.mul_add_mod, Nat.mod_eq_of_lt hj]
  have := stW_step xs ys m k n (i * n + j) t hlt
  rw [hd, hm] at this
  rw [stW_here _ _ _ _ _ _ _ hlt, this]
attribute [irreducible] stW matW dotW
end Go.Proofs.YtghlnncfigkkaaaGreatDoor
namespace Go.Proofs.YtghlnncfigkkaaaGreatDoor
set_option linter.unusedVariables false
set_option linter.unusedSimpArgs false
open Go.RowKit
def dblLo (a b : UInt64) : UInt64 := if shrW b 63 == 1 then xorW (shlW a 1) 135 else shlW a 1
def dblHi (a b : UInt64) : UInt64 := orW (shlW b 1) (shrW a 63)
def rdblHi (a b : UInt64) : UInt64 := addW (shlW b 1) (shrW a 63)
theorem nat_shl (a : UInt64) : (shlW a 1).toNat = 2 * (a.toNat % 9223372036854775808) := by
  have h := u64_dbl a
  rw [wrapN] at h
  have := a.toNat_lt
  omega
theorem nat_shr (a : UInt64) : (shrW a 63).toNat = a.toNat / 9223372036854775808 := by
  have h := u64_div63 a
  omega
theorem nat_hi (a b : UInt64) : (dblHi a b).toNat = 2 * (b.toNat % 9223372036854775808) + a.toNat / 9223372036854775808 := by
  have ha := a.toNat_lt
  unfold dblHi
  have : (orW (shlW b 1) (shrW a 63)).toNat = (shlW b 1).toNat ||| (shrW a 63).toNat := by unfold orW; rw [UInt64.toNat_or]
  rw [this, nat_shl, nat_shr]
  have h := Nat.two_pow_add_eq_or_of_lt (i := 1) (b := a.toNat / 9223372036854775808) (by omega) (b.toNat % 9223372036854775808)
  simpa using h.symm
theorem dbl_hi (a b : UInt64) : rdblHi a b = dblHi a b := by
  apply UInt64.toNat_inj.1
  rw [nat_hi]
  unfold rdblHi
  have h := u64_add (shlW b 1) (shrW a 63)
  rw [wrapN, nat_shl, nat_shr] at h
  have := a.toNat_lt; have := b.toNat_lt
  omega
theorem shr_one (b : UInt64) : (shrW b 63 == 1) = decide (b.toNat / 9223372036854775808 = 1) := by
  rw [Bool.eq_iff_iff, beq_iff_eq, decide_eq_true_iff, ← UInt64.toNat_inj, nat_shr]
  rfl
theorem nat_xor (a b : UInt64) : (xorW a b).toNat = a.toNat ^^^ b.toNat := by unfold xorW; rw [UInt64.toNat_xor]
theorem shl_inj {a c : UInt64} (h : shlW a 1 = shlW c 1) : a.toNat % 9223372036854775808 = c.toNat % 9223372036854775808 := by
  have := congrArg UInt64.toNat h
  rw [nat_shl, nat_shl] at this
  omega
theorem odd_lo (x : UInt64) : (xorW (shlW x 1) 135).toNat % 2 = 1 := by
  have h : (xorW (shlW x 1) 135).toNat.testBit 0 = true := by
    rw [nat_xor, Nat.testBit_xor, Nat.testBit_zero, Nat.testBit_zero, nat_shl]
    have e : (2 * (x.toNat % 9223372036854775808)) % 2 = 0 := by omega
    rw [e]
    rfl
  rw [Nat.testBit_zero] at h
  simpa using h
theorem xor_inj {x y : UInt64} (h : xorW x 135 = xorW y 135) : x = y := by
  unfold xorW at h
  have := congrArg (· ^^^ (135 : UInt64)) h
  simpa [UInt64.xor_assoc] using this
theorem dbl_eq (a b c d : UInt64) : (dblLo a b == dblLo c d && dblHi a b == dblHi c d) = (a == c && b == d) := by
  rw [Bool.eq_iff_iff]
  simp only [Bool.and_eq_true, beq_iff_eq]
  constructor
  · rintro ⟨hl, hh⟩
    have h1 := congrArg UInt64.toNat hh
    rw [nat_hi, nat_hi] at h1
    have a1 := a.toNat_lt; have a2 := b.toNat_lt; have a3 := c.toNat_lt; have a4 := d.toNat_lt
    have p1 : b.toNat % 9223372036854775808 = d.toNat % 9223372036854775808 := by omega
    have p2 : a.toNat / 9223372036854775808 = c.toNat / 9223372036854775808 := by omega
    unfold dblLo at hl
    rw [shr_one, shr_one] at hl
    by_cases hb : b.toNat / 9223372036854775808 = 1 <;> by_cases hd : d.toNat / 9223372036854775808 = 1
    · simp only [hb, hd, decide_true, if_true] at hl
      have := shl_inj (xor_inj hl)
      exact ⟨UInt64.toNat_inj.1 (by omega), UInt64.toNat_inj.1 (by omega)⟩
    · simp only [hb, hd, decide_true, if_true, decide_false, Bool.false_eq_true, if_false] at hl
      have h2 := odd_lo a
      rw [hl, nat_shl] at h2
      omega
    · simp only [hb, hd, decide_true, if_true, decide_false, Bool.false_eq_true, if_false] at hl
      have h2 := odd_lo c
      rw [← hl, nat_shl] at h2
      omega
    · simp only [hb, hd, decide_false, Bool.false_eq_true, if_false] at hl
      have := shl_inj hl
      exact ⟨UInt64.toNat_inj.1 (by omega), UInt64.toNat_inj.1 (by omega)⟩
  · rintro ⟨rfl, rfl⟩
    exact ⟨rfl, rfl⟩
theorem shl_xor (a c : UInt64) : shlW (xorW a c) 1 = xorW (shlW a 1) (shlW c 1) := by
  unfold shlW xorW
  apply UInt64.toBitVec_inj.1
  simp [BitVec.shiftLeft_xor_distrib]
theorem shr_xor (a c : UInt64) : shrW (xorW a c) 63 = xorW (shrW a 63) (shrW c 63) := by
  unfold shrW xorW
  apply UInt64.toBitVec_inj.1
  simp [BitVec.ushiftRight_xor_distrib]
theorem shr_cases (b : UInt64) : shrW b 63 = 0 ∨ shrW b 63 = 1 := by
  have h := nat_shr b
  have := b.toNat_lt
  rcases (by omega : b.toNat / 9223372036854775808 = 0 ∨ b.toNat / 9223372036854775808 = 1) with h2 | h2
  · left; apply UInt64.toNat_inj.1; rw [h, h2]; rfl
  · right; apply UInt64.toNat_inj.1; rw [h, h2]; rfl
theorem lo_xor (a b c d : UInt64) : xorW (dblLo a b) (dblLo c d) = dblLo (xorW a c) (xorW b d) := by
  unfold dblLo
  rw [shr_xor, shl_xor]
  have e0 : ((0 : UInt64) == 1) = false := by decide
  have e1 : ((1 : UInt64) == 1) = true := by decide
  rcases shr_cases b with hb | hb <;> rcases shr_cases d with hd | hd <;> rw [hb, hd]
  · have : xorW 0 0 = 0 := by decide +kernel
    simp only [this, e0, Bool.false_eq_true, if_false]
  · have : xorW 0 1 = 1 := by decide +kernel
    simp only [this, e0, e1, Bool.false_eq_true, if_false, if_true]
    unfold xorW; rw [UInt64.xor_assoc]
  · have : xorW 1 0 = 1 := by decide +kernel
    simp only [this, e0, e1, Bool.false_eq_true, if_false, if_true]
    unfold xorW; rw [UInt64.xor_assoc, UInt64.xor_assoc, UInt64.xor_comm 135]
  · have : xorW 1 1 = 0 := by decide +kernel
    simp only [this, e0, e1, Bool.false_eq_true, if_false, if_true]
    unfold xorW
    rw [UInt64.xor_assoc, ← UInt64.xor_assoc 135, UInt64.xor_comm 135, UInt64.xor_assoc (shlW c 1), UInt64.xor_self, UInt64.xor_zero]
theorem hi_xor (a b c d : UInt64) : xorW (dblHi a b) (dblHi c d) = dblHi (xorW a c) (xorW b d) := by
  unfold dblHi
  rw [shr_xor, shl_xor]
  apply UInt64.toNat_inj.1
  have o : ∀ x y : UInt64, (orW x y).toNat = x.toNat ||| y.toNat := fun x y => by unfold orW; rw [UInt64.toNat_or]
  rw [nat_xor, o, o, o, nat_xor, nat_xor]
  apply Nat.eq_of_testBit_eq
  intro i
  have z : ∀ x y : UInt64, ((shlW x 1).toNat.testBit i && (shrW y 63).toNat.testBit i) = false := fun x y => by
    rw [nat_shl, nat_shr]
    have hy := y.toNat_lt
    rcases Nat.eq_zero_or_pos i with h | h
    · subst h
      rw [Nat.testBit_zero]
      have : (2 * (x.toNat % 9223372036854775808)) % 2 = 0 := by omega
      simp [this]
    · have : (y.toNat / 9223372036854775808).testBit i = false := Nat.testBit_lt_two_pow (Nat.lt_of_lt_of_le (by omega : y.toNat / 9223372036854775808 < 2 ^ 1) (Nat.pow_le_pow_right (by omega) h))
      rw [this, Bool.and_false]
  have z1 := z b a
  have z2 := z b c
  have z3 := z d a
  have z4 := z d c
  simp only [Nat.testBit_xor, Nat.testBit_or]
  revert z1 z2 z3 z4
  cases (shlW b 1).toNat.testBit i <;> cases (shrW a 63).toNat.testBit i <;> cases (shlW d 1).toNat.testBit i <;> cases (shrW c 63).toNat.testBit i <;> decide
end Go.Proofs.YtghlnncfigkkaaaGreatDoor
namespace Go.Proofs.YtghlnncfigkkaaaGreatDoor
set_option linter.unusedVariables false
set_option linter.unusedSimpArgs false
open Go.RowKit
attribute [local go_sem ↓] u64_add u64_mul u64_sub u64_neg u64_beq u64_bne u64_lt u64_xor u64_and u64_or u64_up63 u64_dbl u64_div63 u64_div2 u64_tdiv63 u64_tdiv2 u64_wrap u64_and1 u64_mod2 u64_tmod2 u64_xor135 u64_beq1 u64_ge63 i64_u64 u64_i64_div u64_i64_div63 u64_i64 slt_eq u64_mul63 u64_mul63'
def oneW (b : Bool) : UInt64 := if b then 1 else 0

set_option maxRecDepth 100000 in
theorem Floor_any (x : UInt64) (k : Int) (w : World) :
    Calls Tryz.prog 189 #[U x, .int .i64 k] w fun e w' => e = .returned (U (sarW x (min (max k 0) 63).toNat)) ∧ w = w' := by
  rcases (by omega : k < 0 ∨ (0 ≤ k ∧ k ≤ 63) ∨ 63 < k) with h | ⟨h1, h2⟩ | h
  · have e : (min (max k 0) 63).toNat = 0 := by omega
    have z : sarW x 0 = x := by have := u64_i64_div x 0; simp [u64_i64] at this; exact (UInt64.toNat_inj.1 (by omega)).symm
    go_enter Tryz.func189, Tryz.ntmps189
    go_wp2
    go_ret
    exact ⟨by rw [e, z]; rfl, rfl⟩
  · have e : (min (max k 0) 63) = k := by omega
    rw [e]
    clear e
    go_enter Tryz.func189, Tryz.ntmps189
    go_wp2
    go_ret
    exact ⟨rfl, rfl⟩
  · have e : (min (max k 0) 63).toNat = 63 := by omega
    rw [e]
    clear e
    go_enter Tryz.func189, Tryz.ntmps189
    go_wp2
    go_ret
    exact ⟨rfl, rfl⟩
set_option maxRecDepth 100000 in
theorem Less_any (x y : UInt64) (w : World) :
    Calls Tryz.prog 183 #[U x, U y] w fun e w' => e = .returned (U (oneW (sltW x y))) ∧ w = w' := by
  go_enter Tryz.func183, Tryz.ntmps183
  go_wp2
  all_goals (go_ret; exact ⟨by simp [oneW, *], rfl⟩)
set_option maxRecDepth 100000 in
theorem rLess_any (x y : UInt64) (w : World) :
    Calls Tryz.prog 164 #[U x, U y] w fun e w' => e = .returned (U (oneW (ltW (up63 x) (up63 y)))) ∧ w = w' := by
  go_enter Tryz.func164, Tryz.ntmps164
  go_wp2
  all_goals (go_ret; exact ⟨by simp [oneW, *], rfl⟩)
set_option maxRecDepth 100000 in
theorem Spread_any (x : UInt64) (w : World) :
    Calls Tryz.prog 159 #[U x] w fun e w' => e = .returned (U (negW (andW x 1))) ∧ w = w' := by
  go_enter Tryz.func159, Tryz.ntmps159
  go_wp2
  all_goals (go_ret; exact ⟨rfl, rfl⟩)
set_option maxRecDepth 100000 in
set_option maxHeartbeats 400000 in
theorem rFloor_any (x : UInt64) (k : Int) (w : World) :
    Calls Tryz.prog 192 #[U x, .int .i64 k] w fun e w' => e = .returned (U (sarW x (min (max k 0) 63).toNat)) ∧ w = w' := by
  go_enter Tryz.func192, Tryz.ntmps192
  go_wp2
  go_loop [0, 5] (fun v i => ∃ n : Nat, (n : Int) ≤ max k 0 ∧ n ≤ 63 ∧ i = .int .i64 n ∧ v = U (sarW x n)) (fun _ i => 64 - (intOf i).toNat)
  case atStart => exact ⟨0, by omega, by omega, rfl, by rw [sar_zero]⟩
  case round =>
    obtain ⟨n, hn, hn2, rfl, rfl⟩ := hrel
    by_cases hlt : (n : Int) < k ∧ n < 63
    · obtain ⟨h1, h2⟩ := hlt
      go_wp2
      go_round
      case rel => exact ⟨n + 1, by omega, by omega, by go_num, by rw [half_word, sar_sar]⟩
      case measure => simp [intOf]; omega
    · have he : (min (max k 0) 63).toNat = n := by omega
      by_cases h1 : (n : Int) < k
      · have h2 : (n : Int) < 63 → False := by omega
        go_wp2
        go_ret
        exact ⟨rfl, rfl⟩
      · go_wp2
        go_ret
        exact ⟨rfl, rfl⟩
def sumW (l : List UInt64) : UInt64 := l.foldl addW 0
theorem sumW_take (l : List UInt64) {k : Nat} (h : k < l.length) : sumW (l.take (k + 1)) = addW (sumW (l.take k)) (nthW l k) := by
  unfold sumW
  rw [List.take_succ_eq_append_getElem h, List.foldl_append, nthW_eq]
  simp [List.getD_eq_getElem?_getD, List.getElem?_eq_getElem h]
attribute [irreducible] sumW
set_option maxRecDepth 100000 in
set_option maxHeartbeats 400000 in
theorem Sum_any (A : Option Addr) (c : Nat) (l : List UInt64) (B : Nat) (w : World) (hl : l.length ≤ 9223372036854775807) (hA : Rd w B A (l.map U)) :
    Calls Tryz.prog 154 #[.slice A l.length c] w fun e w' => e = .returned (U (sumW l)) ∧ w = w' := by
  go_enter Tryz.func154, Tryz.ntmps154
  go_wp2
  go_loop [3, 5, 8] (fun s _ i => ∃ n : Nat, n ≤ l.length ∧ i = .int .i64 n ∧ s = U (sumW (l.take n))) (fun _ _ i => l.length - (intOf i).toNat)
  case atStart => exact ⟨0, by omega, rfl, by unfold sumW; rfl⟩
  case round =>
    obtain ⟨n, hn, rfl, rfl⟩ := hrel
    by_cases hlt : n < l.length
    · obtain ⟨b, o, rfl, hb, hc⟩ := hA.word hlt
      have HS := Lib.hid (sumW_take l hlt)
      clear hA
      go_wp2
      go_round
      case rel => exact ⟨n + 1, by omega, by go_num, by rw [HS.out]⟩
      case measure => simp [intOf]; omega
    · obtain rfl : n = l.length := by omega
      go_wp2
      go_ret
      exact ⟨rfl, rfl⟩
end Go.Proofs.YtghlnncfigkkaaaGreatDoor
namespace Go.Proofs.YtghlnncfigkkaaaGreatDoor
set_option linter.unusedVariables false
set_option linter.unusedSimpArgs false
open Go.RowKit
def onesW : UInt64 := 18446744073709551615
theorem spread_one : negW (andW 1 1) = onesW := by unfold negW andW onesW; decide
theorem spread_zero : negW (andW 0 1) = 0 := by unfold negW andW; decide
theorem and_bit (c : UInt64) : andW c 1 = 1 ∨ andW c 1 = 0 := by
  have h := u64_mod2 c
  have h2 : (andW c 1).toNat = 0 ∨ (andW c 1).toNat = 1 := by omega
  rcases h2 with h2 | h2
  · exact .inr (UInt64.toNat_inj.1 h2)
  · exact .inl (UInt64.toNat_inj.1 h2)
theorem neg_one : negW 1 = onesW := by unfold negW onesW; decide
theorem neg_zero : negW 0 = 0 := by unfold negW; decide
theorem and_all (x : UInt64) : andW onesW x = x := by
  unfold andW onesW
  apply UInt64.toNat_inj.1
  rw [UInt64.toNat_and]
  have := x.toNat_lt
  show 18446744073709551615 &&& x.toNat = x.toNat
  rw [Nat.and_comm, show (18446744073709551615 : Nat) = 2 ^ 64 - 1 from rfl, Nat.and_two_pow_sub_one_eq_mod]
  omega
theorem and_zero (x : UInt64) : andW 0 x = 0 := by unfold andW; simp
theorem and_comm' (x y : UInt64) : andW x y = andW y x := by unfold andW; exact UInt64.and_comm x y
theorem xor_zero' (x : UInt64) : xorW x 0 = x := by unfold xorW; simp
theorem xor_back (a b : UInt64) : xorW a (xorW a b) = b := by unfold xorW; rw [← UInt64.xor_assoc, UInt64.xor_self, UInt64.zero_xor]
theorem xor_comm' (x y : UInt64) : xorW x y = xorW y x := by unfold xorW; exact UInt64.xor_comm x y
/-- The greater of two, as the program makes it. -/
theorem max_word (a b : UInt64) (c : Bool) : xorW a (andW (xorW a b) (negW (andW (if c then 1 else 0) 1))) = if c then b else a := by
  cases c with
  | true => rw [if_pos rfl, if_pos rfl, spread_one, and_comm', and_all, xor_back]
  | false =>
    have h : (if (false : Bool) = true then (1 : UInt64) else 0) = 0 := rfl
    rw [h, spread_zero, and_comm', and_zero, xor_zero']
    rfl
/-- A choice, as the program makes it. -/
theorem mux_word (c y z : UInt64) : xorW z (andW (negW (andW c 1)) (xorW y z)) = if andW c 1 = 1 then y else z := by
  rcases and_bit c with h | h
  · rw [h, if_pos rfl, neg_one, and_all, xor_comm' y z, xor_back]
  · rw [h, if_neg (by decide), neg_zero, and_zero, xor_zero']
theorem sign_bit (a : UInt64) : shrW a 63 = if sltW a 0 then 1 else 0 := by
  have h := u64_div63 a
  have h2 := a.toNat_lt
  apply UInt64.toNat_inj.1
  unfold sltW
  rw [sI_eq, sI_eq]
  have e0 : (0 : UInt64).toNat = 0 := rfl
  rw [e0, if_pos (show (0 : Nat) < 9223372036854775808 by decide)]
  by_cases hc : a.toNat < 9223372036854775808
  · rw [if_pos hc, decide_eq_false (by omega)]
    show (shrW a 63).toNat = 0
    omega
  · rw [if_neg hc, decide_eq_true (by omega)]
    show (shrW a 63).toNat = 1
    omega
/-- All bits turned. -/
def notW (x : UInt64) : UInt64 := xorW x onesW
end Go.Proofs.YtghlnncfigkkaaaGreatDoor
namespace Go.Proofs.YtghlnncfigkkaaaGreatDoor
set_option linter.unusedVariables false
set_option linter.unusedSimpArgs false
open Go.RowKit
attribute [local go_sem ↓] u64_add u64_mul u64_sub u64_neg u64_beq u64_bne u64_lt u64_xor u64_and u64_or u64_up63 u64_dbl u64_div63 u64_div2 u64_tdiv63 u64_tdiv2 u64_wrap u64_and1 u64_mod2 u64_tmod2 u64_xor135 u64_beq1 u64_ge63 i64_u64 u64_i64_div u64_i64_div63 u64_i64 slt_eq
theorem wrap_small {n : Int} (h0 : 0 ≤ n) (h1 : n ≤ 9223372036854775807) : IntKind.i64.wrap n = n := by
  rw [IntKind.wrap_i64]
  omega
theorem u64_andNot (x y : UInt64) : bits .andNot .u64 (x.toNat : Int) (y.toNat : Int) = ((andW x (notW y)).toNat : Int) := by
  show IntKind.u64.wrap ((BitVec.ofInt 64 (x.toNat : Int) &&& ~~~ BitVec.ofInt 64 (y.toNat : Int)).toNat : Int) = _
  rw [ofInt_toNat, ofInt_toNat, wrapN]
  have : (andW x (notW y)).toNat = (x.toBitVec &&& ~~~ y.toBitVec).toNat := by
    unfold andW notW xorW onesW
    show (x.toBitVec &&& (y.toBitVec ^^^ (18446744073709551615 : UInt64).toBitVec)).toNat = _
    have e : y.toBitVec ^^^ (18446744073709551615 : UInt64).toBitVec = ~~~ y.toBitVec := by
      rw [show (18446744073709551615 : UInt64).toBitVec = BitVec.allOnes 64 from rfl, BitVec.xor_allOnes]
    rw [e]
  rw [this]
  have := (x.toBitVec &&& ~~~ y.toBitVec).isLt
  omega
attribute [local go_sem ↓] u64_andNot
def maxW (a b : UInt64) : UInt64 := if sltW a b then b else a
def reluW (a : UInt64) : UInt64 := if sltW a 0 then 0 else a
theorem max_masked (a b : UInt64) : xorW a (andW (xorW a b) (negW (andW (oneW (sltW a b)) 1))) = maxW a b := max_word a b (sltW a b)
theorem relu_masked (a : UInt64) : andW a (notW (negW (andW (shrW a 63) 1))) = reluW a := by
  rw [sign_bit]
  unfold reluW
  cases sltW a 0 with
  | true =>
    rw [if_pos rfl, if_pos rfl, spread_one]
    have : notW onesW = 0 := by unfold notW xorW onesW; decide
    rw [this, and_comm', and_zero]
  | false =>
    have h : (if (false : Bool) = true then (1 : UInt64) else 0) = 0 := rfl
    rw [h, spread_zero]
    have : notW 0 = onesW := by unfold notW xorW onesW; decide
    rw [this, and_comm', and_all]
    rfl
attribute [irreducible] maxW reluW
set_option maxRecDepth 100000 in
theorem two1_any (a b : UInt64) (w : World) : Calls Tryz.prog 184 #[U a, U b] w fun e w' => e = .returned (U (negW a)) ∧ w = w' := by
  go_enter Tryz.func184, Tryz.ntmps184
  go_wp2
  go_ret
  exact ⟨rfl, rfl⟩
set_option maxRecDepth 100000 in
theorem two2_any (a b : UInt64) (w : World) : Calls Tryz.prog 185 #[U a, U b] w fun e w' => e = .returned (U (addW a b)) ∧ w = w' := by
  go_enter Tryz.func185, Tryz.ntmps185
  go_wp2
  go_ret
  exact ⟨rfl, rfl⟩
set_option maxRecDepth 100000 in
theorem two3_any (a b : UInt64) (w : World) : Calls Tryz.prog 186 #[U a, U b] w fun e w' => e = .returned (U (subW a b)) ∧ w = w' := by
  go_enter Tryz.func186, Tryz.ntmps186
  go_wp2
  go_ret
  exact ⟨rfl, rfl⟩
set_option maxRecDepth 100000 in
theorem two4_any (a b : UInt64) (w : World) : Calls Tryz.prog 187 #[U a, U b] w fun e w' => e = .returned (U (mulW a b)) ∧ w = w' := by
  go_enter Tryz.func187, Tryz.ntmps187
  go_wp2
  go_ret
  exact ⟨rfl, rfl⟩
set_option maxRecDepth 100000 in
theorem two5_any (a b : UInt64) (eb num : Nat) (w : World) (hn : num ≤ 63) (hc : w.cell? ⟨eb, 2, none⟩ = some (.int .u64 (num : Int))) : Calls Tryz.prog 188 #[U a, U b, .pointer (some ⟨eb, 0, none⟩)] w fun e w' => e = .returned (U (sarW a num)) ∧ w = w' := by
  have hw : IntKind.i64.wrap (num : Int) = (num : Int) := wrap_small (by omega) (by omega)
  have HF := Lib.hid (Floor_any a num w)
  have hm : (min (max (num : Int) 0) 63).toNat = num := by omega
  rw [hm] at HF
  clear hm
  go_enter Tryz.func188, Tryz.ntmps188
  go_wp2_with (go_at_call 189; refine HF.out.mono ?_; rintro e w' ⟨rfl, rfl⟩)
  go_ret
  exact ⟨rfl, rfl⟩
set_option maxRecDepth 100000 in
theorem two6_any (a b : UInt64) (w : World) : Calls Tryz.prog 190 #[U a, U b] w fun e w' => e = .returned (U (reluW a)) ∧ w = w' := by
  go_enter Tryz.func190, Tryz.ntmps190
  go_wp2_with (go_at_call 159; refine (Spread_any _ _).mono ?_; rintro e w' ⟨rfl, rfl⟩)
  go_ret
  exact ⟨by rw [← relu_masked]; rfl, rfl⟩
set_option maxRecDepth 100000 in
theorem two7_any (a b : UInt64) (w : World) : Calls Tryz.prog 191 #[U a, U b] w fun e w' => e = .returned (U (maxW a b)) ∧ w = w' := by
  go_enter Tryz.func191, Tryz.ntmps191
  go_wp2_with (first | (go_at_call 183; refine (Less_any _ _ _).mono ?_; rintro e w' ⟨rfl, rfl⟩) | (go_at_call 159; refine (Spread_any _ _).mono ?_; rintro e w' ⟨rfl, rfl⟩))
  go_ret
  exact ⟨by rw [← max_masked]; rfl, rfl⟩
set_option maxRecDepth 100000 in
theorem ex1_any (a b : UInt64) (w : World) : Calls Tryz.prog 157 #[U a, U b] w fun e w' => e = .returned (U (xorW a b)) ∧ w = w' := by
  go_enter Tryz.func157, Tryz.ntmps157
  go_wp2
  go_ret
  exact ⟨rfl, rfl⟩
set_option maxRecDepth 100000 in
theorem ex2_any (a b : UInt64) (w : World) : Calls Tryz.prog 158 #[U a, U b] w fun e w' => e = .returned (U (andW (negW (andW a 1)) b)) ∧ w = w' := by
  go_enter Tryz.func158, Tryz.ntmps158
  go_wp2_with (go_at_call 159; refine (Spread_any _ _).mono ?_; rintro e w' ⟨rfl, rfl⟩)
  go_ret
  exact ⟨rfl, rfl⟩
set_option maxRecDepth 100000 in
theorem ex3_any (a b : UInt64) (w : World) : Calls Tryz.prog 160 #[U a, U b] w fun e w' => e = .returned (U (xorW a b)) ∧ w = w' := by
  go_enter Tryz.func160, Tryz.ntmps160
  go_wp2
  go_ret
  exact ⟨rfl, rfl⟩
end Go.Proofs.YtghlnncfigkkaaaGreatDoor
namespace Go.Proofs.YtghlnncfigkkaaaGreatDoor
set_option linter.unusedVariables false
set_option linter.unusedSimpArgs false
open Go.RowKit
attribute [local go_sem ↓] u64_add u64_mul u64_beq u64_bne
theorem word_info : (Tryz.prog.info? 39).map (fun i => (i.zero, i.size, i.bytes)) = some (some (.int .u64 0), 1, 8) := by kernel_rfl
/-- 'make([]uint64, n)'. -/
theorem make_words (n : Nat) (hn : n ≤ 1099511627776) (w : World) (e : Int) (he : e = n) :
    (Instr.makeSlice 40 (.int .i64 e) (.int .i64 e)).run Tryz.prog w = .ok (.slice (some ⟨w.heap.size, 0, none⟩) n n) (w.alloc (.cells ((zerosW n).map U).toArray 39)) := by
  obtain ⟨i0, hi0, hz0, hz1, hz2⟩ := info_parts word_info
  have hr := run_make (P := Tryz.prog) w 40 39 i0 (.int .u64 0) Tryz.underlying40 hi0 hz0 .i64 .i64 e e (by omega) (by omega) (by rw [hz2]; omega) (by omega)
  rw [hr, he, hz1]
  have : (madeCells (Value.int .u64 0).cells ((n : Int).toNat * 1)) = ((zerosW n).map U).toArray := by
    apply Array.ext'
    rw [show (Value.int .u64 0).cells = #[Value.int .u64 0] from rfl, toList_madeCells_one]
    unfold zerosW
    simp
  rw [this]
  rfl
set_option maxRecDepth 100000 in
set_option maxHeartbeats 1000000 in
theorem Mat_yes (A A' : Option Addr) (c c' : Nat) (l l' : List UInt64) (m k n : Nat) (w : World)
    (hm1 : 1 ≤ m) (hm : m ≤ 1024) (hk1 : 1 ≤ k) (hk : k ≤ 1024) (hn1 : 1 ≤ n) (hn : n ≤ 1024) (hl : l.length = m * k) (hl' : l'.length = k * n)
    (hA : Rd w w.heap.size A (l.map U)) (hA' : Rd w w.heap.size A' (l'.map U)) :
    Calls Tryz.prog 182 #[.slice A l.length c, .slice A' l'.length c', .int .i64 m, .int .i64 k, .int .i64 n] w fun e w' =>
      e = .returned (.tuple #[.slice (some ⟨w.heap.size, 0, none⟩) (m * n) (m * n), .nilIface]) ∧ BlkW w' 39 w.heap.size (matW l l' m k n) ∧ Below w.heap.size w w' := by
  have hmn : m * n ≤ 1048576 := Nat.mul_le_mul hm hn
  have hmk : m * k ≤ 1048576 := Nat.mul_le_mul hm hk
  have hkn : k * n ≤ 1048576 := Nat.mul_le_mul hk hn
  have t1 : ((l.length : Int) != (m : Int) * (k : Int)) = false := by rw [hl]; simp
  have t2 : ((l'.length : Int) != (k : Int) * (n : Int)) = false := by rw [hl']; simp
  have HL := Lib.hid hl
  have HL' := Lib.hid hl'
  clear hl hl'
  have q1 : decide ((m : Int) < 1) = false := by simp; omega
  have q2 : decide ((1024 : Int) < (m : Int)) = false := by simp; omega
  have q3 : decide ((k : Int) < 1) = false := by simp; omega
  have q4 : decide ((1024 : Int) < (k : Int)) = false := by simp; omega
  have q5 : decide ((n : Int) < 1) = false := by simp; omega
  have q6 : decide ((1024 : Int) < (n : Int)) = false := by simp; omega
  have hmake := fun w => make_words (m * n) (by omega) w ((m : Int) * (n : Int)) (by simp)
  go_enter Tryz.func182, Tryz.ntmps182
  go_wp2
  clear hmake t1 t2 q1 q2 q3 q4 q5 q6
  go_loopw [60] (fun i wr => ∃ p : Nat, p ≤ m ∧ i = .int .i64 p ∧ BlkW wr 39 w.heap.size (stW l l' m k n (p * n) 0) ∧ Below w.heap.size w wr) (fun i _ => m - (intOf i).toNat)
  case atStart => exact ⟨0, by omega, rfl, by rw [Nat.zero_mul, ← stW_start]; exact heap_alloc_new w _, (Below.refl _ _).alloc (Nat.le_refl _) _⟩
  case round =>
    obtain ⟨p, hp, rfl, hblk, hbel⟩ := hrel
    obtain ⟨wo, rfl⟩ : ∃ wo : World, wo = wr := ⟨_, rfl⟩
    by_cases hlt : p < m
    · go_wp2
      go_loopw [64] (fun j wr => ∃ q : Nat, q ≤ n ∧ j = .int .i64 q ∧ BlkW wr 39 w.heap.size (stW l l' m k n (p * n + q) 0) ∧ Below w.heap.size w wr) (fun j _ => n - (intOf j).toNat)
      case atStart => exact ⟨0, by omega, rfl, hblk, hbel⟩
      case round =>
        clear hblk hbel
        obtain ⟨q, hq, rfl, hblk, hbel⟩ := hrel
        obtain ⟨wm, rfl⟩ : ∃ wm : World, wm = wr := ⟨_, rfl⟩
        by_cases hlq : q < n
        · go_wp2
          go_loopw [68] (fun t wr => ∃ s : Nat, s ≤ k ∧ t = .int .i64 s ∧ BlkW wr 39 w.heap.size (stW l l' m k n (p * n + q) s) ∧ Below w.heap.size w wr) (fun t _ => k - (intOf t).toNat)
          case atStart => exact ⟨0, by omega, rfl, hblk, hbel⟩
          case round =>
            clear hblk hbel
            obtain ⟨s, hs, rfl, hblk, hbel⟩ := hrel
            by_cases hls : s < k
            · have f1 : p * n + q < m * n := by
                have h1 : (p + 1) * n ≤ m * n := Nat.mul_le_mul_right n hlt
                rw [Nat.add_mul] at h1
                omega
              have f2 : p * k + s < l.length := by
                have h1 : (p + 1) * k ≤ m * k := Nat.mul_le_mul_right k hlt
                rw [Nat.add_mul] at h1
                rw [HL.out]
                omega
              have f3 : s * n + q < l'.length := by
                have h1 : (s + 1) * n ≤ k * n := Nat.mul_le_mul_right n hls
                rw [Nat.add_mul] at h1
                rw [HL'.out]
                omega
              have f4 : l.length ≤ 1048576 := by rw [HL.out]; exact hmk
              have f5 : l'.length ≤ 1048576 := by rw [HL'.out]; exact hkn
              obtain ⟨b, o, hAe, hb1, hc1⟩ := hA.word f2
              obtain ⟨b', o', hAe', hb2, hc2⟩ := hA'.word f3
              have g1 : wr.cell? ⟨b, o + (p * k + s), none⟩ = some (U (nthW l (p * k + s))) := (hbel.cell (p := ⟨b, _, none⟩) hb1).trans hc1
              have g2 : wr.cell? ⟨b', o' + (s * n + q), none⟩ = some (U (nthW l' (s * n + q))) := (hbel.cell (p := ⟨b', _, none⟩) hb2).trans hc2
              have g3 := hblk.cell (k := p * n + q) (by rw [length_stW]; exact f1)
              have g4 := hblk.free (p * n + q)
              have HS := Lib.hid (stW_cell l l' m k n p q s hlt hlq)
              have HB := Lib.hid hblk
              have HW := Lib.hid hbel
              clear hA hA' hc1 hc2 hblk hbel
              subst hAe hAe'
              go_wp2
              go_region
              go_wp2
              exact ⟨⟨s + 1, by omega, by go_num, by have h := HB.out.set (p * n + q) (addW (nthW (stW l l' m k n (p * n + q) s) (p * n + q)) (mulW (nthW l (p * k + s)) (nthW l' (s * n + q)))); rw [HS.out] at h; exact h.drew, (HW.out.setCell (p := ⟨w.heap.size, p * n + q, none⟩) (Nat.le_refl _) _).drew⟩, by simp [intOf]; omega⟩
            · obtain rfl : s = k := by omega
              rw [stW_full] at hblk
              have HB := Lib.hid hblk
              have HW := Lib.hid hbel
              clear hblk hbel
              go_wp2
              exact ⟨⟨q + 1, by omega, by go_num, HB.out, HW.out⟩, by simp [intOf]; omega⟩
        · obtain rfl : q = n := by omega
          have e : p * q + q = (p + 1) * q := by rw [Nat.add_mul, Nat.one_mul]
          rw [e] at hblk
          have HB := Lib.hid hblk
          have HW := Lib.hid hbel
          clear hblk hbel e
          go_wp2
          exact ⟨⟨p + 1, by omega, by go_num, HB.out, HW.out⟩, by simp [intOf]; omega⟩
    · obtain rfl : p = m := by omega
      rw [stW_end] at hblk
      have HB := Lib.hid hblk
      have HW := Lib.hid hbel
      clear hblk hbel
      go_wp2
      go_ret2
      exact ⟨rfl, HB.out, HW.out⟩
/-- When do the sizes fit? -/
def fitsM (x y : Nat) (m k n : Int) : Prop := 1 ≤ m ∧ m ≤ 1024 ∧ 1 ≤ k ∧ k ≤ 1024 ∧ 1 ≤ n ∧ n ≤ 1024 ∧ (x : Int) = m * k ∧ (y : Int) = k * n
set_option maxRecDepth 100000 in
set_option maxHeartbeats 1000000 in
theorem Mat_no (A A' : Option Addr) (c c' : Nat) (x y : Nat) (m k n : Int) (w : World) (hx : x ≤ 9223372036854775807) (hy : y ≤ 9223372036854775807) (h : ¬ fitsM x y m k n) :
    Calls Tryz.prog 182 #[.slice A x c, .slice A' y c', .int .i64 m, .int .i64 k, .int .i64 n] w fun e w' =>
      e = .returned (.tuple #[.slice none 0 0, .iface 35 (.int .i64 1)]) ∧ w = w' := by
  by_cases a1 : m < 1
  · have q1 : decide (m < 1) = true := by simpa using a1
    clear h
    go_enter Tryz.func182, Tryz.ntmps182
    go_wp2
    go_ret2
    exact ⟨rfl, rfl⟩
  have q1 : decide (m < 1) = false := by simpa using a1
  by_cases a2 : 1024 < m
  · have q2 : decide (1024 < m) = true := by simpa using a2
    clear h
    go_enter Tryz.func182, Tryz.ntmps182
    go_wp2
    go_ret2
    exact ⟨rfl, rfl⟩
  have q2 : decide (1024 < m) = false := by simpa using a2
  by_cases a3 : k < 1
  · have q3 : decide (k < 1) = true := by simpa using a3
    clear h
    go_enter Tryz.func182, Tryz.ntmps182
    go_wp2
    go_ret2
    exact ⟨rfl, rfl⟩
  have q3 : decide (k < 1) = false := by simpa using a3
  by_cases a4 : 1024 < k
  · have q4 : decide (1024 < k) = true := by simpa using a4
    clear h
    go_enter Tryz.func182, Tryz.ntmps182
    go_wp2
    go_ret2
    exact ⟨rfl, rfl⟩
  have q4 : decide (1024 < k) = false := by simpa using a4
  by_cases a5 : n < 1
  · have q5 : decide (n < 1) = true := by simpa using a5
    clear h
    go_enter Tryz.func182, Tryz.ntmps182
    go_wp2
    go_ret2
    exact ⟨rfl, rfl⟩
  have q5 : decide (n < 1) = false := by simpa using a5
  by_cases a6 : 1024 < n
  · have q6 : decide (1024 < n) = true := by simpa using a6
    clear h
    go_enter Tryz.func182, Tryz.ntmps182
    go_wp2
    go_ret2
    exact ⟨rfl, rfl⟩
  have q6 : decide (1024 < n) = false := by simpa using a6
  have b1 : m * k ≤ 1024 * 1024 := Int.mul_le_mul (by omega) (by omega) (by omega) (by omega)
  have b2 : k * n ≤ 1024 * 1024 := Int.mul_le_mul (by omega) (by omega) (by omega) (by omega)
  have b3 : 0 ≤ m * k := Int.mul_nonneg (by omega) (by omega)
  have b4 : 0 ≤ k * n := Int.mul_nonneg (by omega) (by omega)
  by_cases a7 : (x : Int) = m * k
  · have q7 : ((x : Int) != m * k) = false := by rw [a7]; simp
    have a8 : (y : Int) ≠ k * n := fun a8 => h ⟨by omega, by omega, by omega, by omega, by omega, by omega, a7, a8⟩
    have q8 : ((y : Int) != k * n) = true := by simpa using a8
    clear h a7 a8
    go_enter Tryz.func182, Tryz.ntmps182
    go_wp2
    go_ret2
    exact ⟨rfl, rfl⟩
  · have q7 : ((x : Int) != m * k) = true := by simpa using a7
    clear h a7
    go_enter Tryz.func182, Tryz.ntmps182
    go_wp2
    go_ret2
    exact ⟨rfl, rfl⟩
end Go.Proofs.YtghlnncfigkkaaaGreatDoor
