/-
  The document's Words: two lists of words held against each other.
-/
import Derived.Test.YtpjhbdhpphgldaaDoorRows
import Derived.Test.YtpjhbdhpphgldaaDoorMem
import Derived.BigQuiet
import Derived.Deep.QuietTactic
namespace Go.Proofs.YtpjhbdhpphgldaaDoor
set_option linter.unusedVariables false
set_option linter.unusedSimpArgs false
open Go.RowKit
attribute [local go_sem ↓] u64_bne u64_beq
theorem nthW_pos (l : List UInt64) {k : Nat} (h : k < l.length) : nthW l k = l[k] := by
  rw [nthW_eq, List.getD_eq_getElem?_getD, List.getElem?_eq_getElem h]; rfl
theorem take_grow {l l' : List UInt64} {k : Nat} (ht : l.take k = l'.take k) (h : k < l.length) (h' : k < l'.length) (he : nthW l k = nthW l' k) : l.take (k + 1) = l'.take (k + 1) := by
  rw [List.take_succ_eq_append_getElem h, List.take_succ_eq_append_getElem h', ht, ← nthW_pos l h, ← nthW_pos l' h', he]
theorem beq_of_take {l l' : List UInt64} (he : l.length = l'.length) (ht : l.take l.length = l'.take l.length) : (l == l') = true := by
  rw [List.take_length, he, List.take_length] at ht
  simpa using ht
theorem beq_of_nth {l l' : List UInt64} {k : Nat} (h : (nthW l k != nthW l' k) = true) : (l == l') = false := by
  rw [beq_eq_false_iff_ne]
  rintro rfl
  simp at h
theorem beq_of_len {l l' : List UInt64} (h : l.length ≠ l'.length) : (l == l') = false := by
  rw [beq_eq_false_iff_ne]
  rintro rfl
  exact h rfl
-- Two lists of words, held against each other from the first on.
set_option maxRecDepth 100000 in
set_option maxHeartbeats 400000 in
theorem Words_any (A A' : Option Addr) (c c' : Nat) (l l' : List UInt64) (B : Nat) (w : World) (hl : l.length ≤ 9223372036854775807) (hA : Rd w B A (l.map U)) (hA' : Rd w B A' (l'.map U)) :
    Calls Tryd.prog 6 #[.slice A l.length c, .slice A' l'.length c'] w fun e w' => e = .returned (.bool (l == l')) ∧ ∃ n, w' = w.drewN n := by
  by_cases hne : l.length = l'.length
  · have hb : ((l.length : Int) != (l'.length : Int)) = false := by rw [hne]; simp
    have HNE := Lib.hid hne
    clear hne
    go_enter Tryd.func6, Tryd.ntmps6
    go_wp2
    go_loopw [5, 13] (fun _ i wr => ∃ n : Nat, n ≤ l.length ∧ i = .int .i64 n ∧ l.take n = l'.take n ∧ ∃ m, wr = w.drewN m) (fun _ i _ => l.length - (intOf i).toNat)
    case atStart => exact ⟨0, by omega, rfl, rfl, 0, rfl⟩
    case round =>
      obtain ⟨n, hn, rfl, ht, m, rfl⟩ := hrel
      have HT := Lib.hid ht
      clear ht
      by_cases hlt : n < l.length
      · have hlt' : n < l'.length := by rw [← HNE.out]; exact hlt
        obtain ⟨b, o, rfl, hb1, hc⟩ := hA.word hlt
        obtain ⟨b', o', rfl, hb2, hc'⟩ := hA'.word hlt'
        clear hA hA'
        by_cases heq : nthW l n = nthW l' n
        · have hbb : (nthW l n != nthW l' n) = false := by rw [heq]; simp
          have HE := Lib.hid heq
          clear heq
          go_wp2
          go_quiet (fail)
          go_wp2
          exact ⟨⟨n + 1, by omega, by go_num, take_grow HT.out hlt hlt' HE.out, m + nq, rfl⟩, by simp [intOf]; omega⟩
        · have hbb : (nthW l n != nthW l' n) = true := by simpa using heq
          have HB := Lib.hid (beq_of_nth hbb)
          clear heq
          go_wp2
          go_quiet (fail)
          go_wp2
          go_ret
          exact ⟨by rw [HB.out]; rfl, m + nq, by rw [World.drewN_drewN]⟩
      · obtain rfl : n = l.length := by omega
        have HB := Lib.hid (beq_of_take HNE.out HT.out)
        go_wp2
        go_ret
        exact ⟨by rw [HB.out]; rfl, m, rfl⟩
  · have hb : ((l.length : Int) != (l'.length : Int)) = true := by simp; omega
    have HB := Lib.hid (beq_of_len hne)
    clear hne
    go_enter Tryd.func6, Tryd.ntmps6
    go_wp2
    go_ret
    exact ⟨by rw [HB.out]; rfl, 0, rfl⟩
theorem Words_fit (A A' : Option Addr) (c c' : Nat) (l l' : List UInt64) (x y : Nat) (B : Nat) (w : World) (hx : l.length = x) (hy : l'.length = y) (hl : x ≤ 9223372036854775807) (hA : Rd w B A (l.map U)) (hA' : Rd w B A' (l'.map U)) :
    Calls Tryd.prog 6 #[.slice A x c, .slice A' y c'] w fun e w' => e = .returned (.bool (l == l')) ∧ ∃ n, w' = w.drewN n := by
  subst hx hy
  exact Words_any A A' c c' l l' B w hl hA hA'
theorem Words_same (A A' : Option Addr) (c c' : Nat) (l : List UInt64) (x y : Nat) (B : Nat) (w : World) (hx : l.length = x) (hy : l.length = y) (hl : x ≤ 9223372036854775807) (hA : Rd w B A (l.map U)) (hA' : Rd w B A' (l.map U)) :
    Calls Tryd.prog 6 #[.slice A x c, .slice A' y c'] w fun e w' => e = .returned (.bool true) ∧ ∃ n, w' = w.drewN n := by
  have h := Words_fit A A' c c' l l x y B w hx hy hl hA hA'
  rw [show (l == l) = true from by simp] at h
  exact h
end Go.Proofs.YtpjhbdhpphgldaaDoor
