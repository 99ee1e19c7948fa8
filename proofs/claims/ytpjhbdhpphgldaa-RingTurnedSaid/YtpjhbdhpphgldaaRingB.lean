/-
  Walks of the ring's functions with loops.
-/
import Derived.Test.YtpjhbdhpphgldaaRingA
import Derived.Test.YtpjhbdhpphgldaaMem
import Derived.BigQuiet
import Derived.Deep.QuietTactic
namespace Go.Proofs.Ytpjhbdhpphgldaa
set_option linter.unusedVariables false
set_option linter.unusedSimpArgs false
open Go.RowKit

attribute [local go_sem ↓] u64_add u64_mul u64_sub u64_neg u64_beq u64_bne u64_lt u64_xor u64_and u64_or u64_up63 u64_dbl u64_div63 u64_div2 u64_tdiv63 u64_tdiv2 u64_wrap u64_and1 u64_mod2 u64_tmod2 u64_xor135 u64_beq1 u64_ge63 i64_u64 u64_i64_div u64_i64_div63 u64_i64 slt_eq u64_mul63 u64_mul63'
set_option maxRecDepth 100000 in
set_option maxHeartbeats 400000 in
theorem rFloor_any (x : UInt64) (k : Int) (w : World) :
    Calls Try.prog 22 #[U x, .int .i64 k] w fun e w' => e = .returned (U (sarW x (min (max k 0) 63).toNat)) ∧ w = w' := by
  go_enter Try.func22, Try.ntmps22
  go_wp2
  go_loop [0, 5] (fun v i => ∃ n : Nat, (n : Int) ≤ max k 0 ∧ n ≤ 63 ∧ i = .int .i64 n ∧ v = U (sarW x n)) (fun _ i => 64 - (intOf i).toNat)
  case atStart => exact ⟨0, by omega, by omega, rfl, by rw [sar_zero]⟩
  case round =>
    obtain ⟨n, hn, hn2, rfl, rfl⟩ := hrel
    by_cases hlt : (n : Int) < k ∧ n < 63
    · obtain ⟨h1, h2⟩ := hlt
      go_wp2
      go_round
      case rel => exact ⟨n + 1, by omega, by omega, by go_num, by rw [half_word, sar_sar]⟩
      case measure => simp [intOf]; omega
    · have he : (min (max k 0) 63).toNat = n := by omega
      by_cases h1 : (n : Int) < k
      · have h2 : (n : Int) < 63 → False := by omega
        go_wp2
        go_ret
        exact ⟨rfl, rfl⟩
      · go_wp2
        go_ret
        exact ⟨rfl, rfl⟩
def sumW (l : List UInt64) : UInt64 := l.foldl addW 0
theorem sumW_take (l : List UInt64) {k : Nat} (h : k < l.length) : sumW (l.take (k + 1)) = addW (sumW (l.take k)) (nthW l k) := by
  unfold sumW
  rw [List.take_succ_eq_append_getElem h, List.foldl_append, nthW_eq]
  simp [List.getD_eq_getElem?_getD, List.getElem?_eq_getElem h]
attribute [irreducible] sumW
set_option maxRecDepth 100000 in
set_option maxHeartbeats 400000 in
theorem Sum_any (A : Option Addr) (c : Nat) (l : List UInt64) (B : Nat) (w : World) (hl : l.length ≤ 9223372036854775807) (hA : Rd w B A (l.map U)) :
    Calls Try.prog 21 #[.slice A l.length c] w fun e w' => e = .returned (U (sumW l)) ∧ w = w' := by
  go_enter Try.func21, Try.ntmps21
  go_wp2
  go_loop [3, 5, 8] (fun s _ i => ∃ n : Nat, n ≤ l.length ∧ i = .int .i64 n ∧ s = U (sumW (l.take n))) (fun _ _ i => l.length - (intOf i).toNat)
  case atStart => exact ⟨0, by omega, rfl, by unfold sumW; rfl⟩
  case round =>
    obtain ⟨n, hn, rfl, rfl⟩ := hrel
    by_cases hlt : n < l.length
    · obtain ⟨b, o, rfl, hb, hc⟩ := hA.word hlt
      have HS := Lib.hid (sumW_take l hlt)
      clear hA
      go_wp2
      go_round
      case rel => exact ⟨n + 1, by omega, by go_num, by rw [HS.out]⟩
      case measure => simp [intOf]; omega
    · obtain rfl : n = l.length := by omega
      go_wp2
      go_ret
      exact ⟨rfl, rfl⟩
theorem nthW_pos (l : List UInt64) {k : Nat} (h : k < l.length) : nthW l k = l[k] := by
  rw [nthW_eq, List.getD_eq_getElem?_getD, List.getElem?_eq_getElem h]; rfl
theorem take_grow {l l' : List UInt64} {k : Nat} (ht : l.take k = l'.take k) (h : k < l.length) (h' : k < l'.length) (he : nthW l k = nthW l' k) : l.take (k + 1) = l'.take (k + 1) := by
  rw [List.take_succ_eq_append_getElem h, List.take_succ_eq_append_getElem h', ht, ← nthW_pos l h, ← nthW_pos l' h', he]
theorem beq_of_take {l l' : List UInt64} (he : l.length = l'.length) (ht : l.take l.length = l'.take l.length) : (l == l') = true := by
  rw [List.take_length, he, List.take_length] at ht
  simpa using ht
theorem beq_of_nth {l l' : List UInt64} {k : Nat} (h : (nthW l k != nthW l' k) = true) : (l == l') = false := by
  rw [beq_eq_false_iff_ne]
  rintro rfl
  simp at h
theorem beq_of_len {l l' : List UInt64} (h : l.length ≠ l'.length) : (l == l') = false := by
  rw [beq_eq_false_iff_ne]
  rintro rfl
  exact h rfl
-- Two lists of words, held against each other from the first on.
set_option maxRecDepth 100000 in
set_option maxHeartbeats 400000 in
theorem Words_any (A A' : Option Addr) (c c' : Nat) (l l' : List UInt64) (B : Nat) (w : World) (hl : l.length ≤ 9223372036854775807) (hA : Rd w B A (l.map U)) (hA' : Rd w B A' (l'.map U)) :
    Calls Try.prog 13 #[.slice A l.length c, .slice A' l'.length c'] w fun e w' => e = .returned (.bool (l == l')) ∧ ∃ n, w' = w.drewN n := by
  by_cases hne : l.length = l'.length
  · have hb : ((l.length : Int) != (l'.length : Int)) = false := by rw [hne]; simp
    have HNE := Lib.hid hne
    clear hne
    go_enter Try.func13, Try.ntmps13
    go_wp2
    go_loopw [5, 13] (fun _ i wr => ∃ n : Nat, n ≤ l.length ∧ i = .int .i64 n ∧ l.take n = l'.take n ∧ ∃ m, wr = w.drewN m) (fun _ i _ => l.length - (intOf i).toNat)
    case atStart => exact ⟨0, by omega, rfl, rfl, 0, rfl⟩
    case round =>
      obtain ⟨n, hn, rfl, ht, m, rfl⟩ := hrel
      have HT := Lib.hid ht
      clear ht
      by_cases hlt : n < l.length
      · have hlt' : n < l'.length := by rw [← HNE.out]; exact hlt
        obtain ⟨b, o, rfl, hb1, hc⟩ := hA.word hlt
        obtain ⟨b', o', rfl, hb2, hc'⟩ := hA'.word hlt'
        clear hA hA'
        by_cases heq : nthW l n = nthW l' n
        · have hbb : (nthW l n != nthW l' n) = false := by rw [heq]; simp
          have HE := Lib.hid heq
          clear heq
          go_wp2
          go_quiet (fail)
          go_wp2
          exact ⟨⟨n + 1, by omega, by go_num, take_grow HT.out hlt hlt' HE.out, m + nq, rfl⟩, by simp [intOf]; omega⟩
        · have hbb : (nthW l n != nthW l' n) = true := by simpa using heq
          have HB := Lib.hid (beq_of_nth hbb)
          clear heq
          go_wp2
          go_quiet (fail)
          go_wp2
          go_ret
          exact ⟨by rw [HB.out]; rfl, m + nq, by rw [World.drewN_drewN]⟩
      · obtain rfl : n = l.length := by omega
        have HB := Lib.hid (beq_of_take HNE.out HT.out)
        go_wp2
        go_ret
        exact ⟨by rw [HB.out]; rfl, m, rfl⟩
  · have hb : ((l.length : Int) != (l'.length : Int)) = true := by simp; omega
    have HB := Lib.hid (beq_of_len hne)
    clear hne
    go_enter Try.func13, Try.ntmps13
    go_wp2
    go_ret
    exact ⟨by rw [HB.out]; rfl, 0, rfl⟩
theorem Words_fit (A A' : Option Addr) (c c' : Nat) (l l' : List UInt64) (x y : Nat) (B : Nat) (w : World) (hx : l.length = x) (hy : l'.length = y) (hl : x ≤ 9223372036854775807) (hA : Rd w B A (l.map U)) (hA' : Rd w B A' (l'.map U)) :
    Calls Try.prog 13 #[.slice A x c, .slice A' y c'] w fun e w' => e = .returned (.bool (l == l')) ∧ ∃ n, w' = w.drewN n := by
  subst hx hy
  exact Words_any A A' c c' l l' B w hl hA hA'
theorem Words_same (A A' : Option Addr) (c c' : Nat) (l : List UInt64) (x y : Nat) (B : Nat) (w : World) (hx : l.length = x) (hy : l.length = y) (hl : x ≤ 9223372036854775807) (hA : Rd w B A (l.map U)) (hA' : Rd w B A' (l.map U)) :
    Calls Try.prog 13 #[.slice A x c, .slice A' y c'] w fun e w' => e = .returned (.bool true) ∧ ∃ n, w' = w.drewN n := by
  have h := Words_fit A A' c c' l l x y B w hx hy hl hA hA'
  rw [show (l == l) = true from by simp] at h
  exact h
end Go.Proofs.Ytpjhbdhpphgldaa