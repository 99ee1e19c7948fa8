/-
  The fixed fact awake of the ring's laws.
-/
import Derived.Test.YtpjhbdhpphgldaaDoorRmMat
import Derived.Test.YtpjhbdhpphgldaaDoorLab
import Derived.Test.YtpjhbdhpphgldaaDoorWds
namespace Go.Proofs.YtpjhbdhpphgldaaDoor
set_option linter.unusedVariables false
set_option linter.unusedSimpArgs false
open Go.RowKit
attribute [local go_sem ↓] u64_add u64_mul u64_beq u64_bne
theorem Mat_fit (A A' : Option Addr) (c c' : Nat) (l l' : List UInt64) (m k n : Nat) (x y : Nat) (mi ki ni : Int) (w : World)
    (hm1 : 1 ≤ m) (hm : m ≤ 1024) (hk1 : 1 ≤ k) (hk : k ≤ 1024) (hn1 : 1 ≤ n) (hn : n ≤ 1024) (hl : l.length = m * k) (hl' : l'.length = k * n) (hx : l.length = x) (hy : l'.length = y)
    (em : mi = m) (ek : ki = k) (en : ni = n)
    (hA : Rd w w.heap.size A (l.map U)) (hA' : Rd w w.heap.size A' (l'.map U)) :
    Calls Tryd.prog 5 #[.slice A x c, .slice A' y c', .int .i64 mi, .int .i64 ki, .int .i64 ni] w fun e w' =>
      e = .returned (.tuple #[.slice (some ⟨w.heap.size, 0, none⟩) (m * n) (m * n), .nilIface]) ∧ BlkW w' 25 w.heap.size (matW l l' m k n) ∧ Below w.heap.size w w' := by
  subst hx hy em ek en
  exact Mat_yes A A' c c' l l' m k n w hm1 hm hk1 hk hn1 hn hl hl' hA hA'

theorem heap_two (w : World) (o o' : Obj) : ((w.alloc o).alloc o').heap[w.heap.size]? = some o ∧ ((w.alloc o).alloc o').heap[w.heap.size + 1]? = some o' ∧ ((w.alloc o).alloc o').heap.size = w.heap.size + 1 + 1 := by
  refine ⟨?_, ?_, ?_⟩
  · rw [Below.heap_alloc (w.alloc o) o' w.heap.size (by simp)]; exact heap_alloc_new w o
  · have h := heap_alloc_new (w.alloc o) o'
    simpa using h
  · simp
theorem words_two (w : World) (x y x' y' : UInt64) : Rd ((w.alloc (.cells #[U x, U y] 25)).alloc (.cells #[U x', U y'] 25)) ((w.alloc (.cells #[U x, U y] 25)).alloc (.cells #[U x', U y'] 25)).heap.size (some ⟨w.heap.size, 0, none⟩) ([x, y].map U) ∧
    Rd ((w.alloc (.cells #[U x, U y] 25)).alloc (.cells #[U x', U y'] 25)) ((w.alloc (.cells #[U x, U y] 25)).alloc (.cells #[U x', U y'] 25)).heap.size (some ⟨w.heap.size + 1, 0, none⟩) ([x', y'].map U) := by
  obtain ⟨h1, h2, h3⟩ := heap_two w (.cells #[U x, U y] 25) (.cells #[U x', U y'] 25)
  exact ⟨Rd.of_block h1 (by omega) (by simp), Rd.of_block h2 (by omega) (by simp)⟩
theorem mat_awake : matW [1, 2] [3, 4] 1 2 1 = [11] := by decide +kernel
theorem floor_awake (w : World) : Calls Tryd.prog 9 #[.int .u64 18446744073709551613, .int .i64 1] w fun e w' => e = .returned (.int .u64 18446744073709551614) ∧ w = w' := by
  have h := Floor_any 18446744073709551613 1 w
  have e1 : ((18446744073709551613 : UInt64).toNat : Int) = 18446744073709551613 := by decide +kernel
  have e2 : ((sarW 18446744073709551613 (min (max (1 : Int) 0) 63).toNat).toNat : Int) = 18446744073709551614 := by decide +kernel
  simp only [U, e1, e2] at h
  exact h
theorem less_awake (w : World) : Calls Tryd.prog 10 #[.int .u64 18446744073709551615, .int .u64 0] w fun e w' => e = .returned (.int .u64 1) ∧ w = w' := by
  have h := Less_any 18446744073709551615 0 w
  have e1 : ((18446744073709551615 : UInt64).toNat : Int) = 18446744073709551615 := by decide +kernel
  have e2 : ((oneW (sltW 18446744073709551615 0)).toNat : Int) = 1 := by decide +kernel
  have e3 : ((0 : UInt64).toNat : Int) = 0 := by decide +kernel
  simp only [U, e1, e2, e3] at h
  exact h
theorem double_awake (w : World) : Calls Tryd.prog 11 #[.agg #[.int .u64 0, .int .u64 9223372036854775808]] w fun e w' => e = .returned (.agg #[.int .u64 135, .int .u64 0]) ∧ Below w.heap.size w w' := by
  have h := Double_any 0 9223372036854775808 w
  have e1 : ((9223372036854775808 : UInt64).toNat : Int) = 9223372036854775808 := by decide +kernel
  have e2 : ((dblLo 0 9223372036854775808).toNat : Int) = 135 := by decide +kernel
  have e3 : ((dblHi 0 9223372036854775808).toNat : Int) = 0 := by decide +kernel
  have e4 : ((0 : UInt64).toNat : Int) = 0 := by decide +kernel
  simp only [U, e1, e2, e3, e4] at h
  exact h
set_option maxRecDepth 100000 in
set_option maxHeartbeats 400000 in
theorem awake_any (w : World) : Calls Tryd.prog 4 #[] w fun e w' => e = .returned (.bool true) ∧ Below w.heap.size w w' := by
  go_enter Tryd.func4, Tryd.ntmps4
  go_wp2_with fail
  refine (Mat_fit _ _ _ _ [1, 2] [3, 4] 1 2 1 2 2 1 2 1 _ (by omega) (by omega) (by omega) (by omega) (by omega) (by omega) rfl rfl rfl rfl rfl rfl rfl ?a1 ?a2).mono ?_
  case a1 => exact (words_two w 1 2 3 4).1
  case a2 => exact (words_two w 1 2 3 4).2
  rintro e w1 ⟨rfl, hblk, hbel⟩
  rw [mat_awake] at hblk
  have hb0 : Below w.heap.size w w1 := (((Below.refl _ _).alloc (Nat.le_refl _) _).alloc (by simp) _).trans (hbel.mono (by simp; omega))
  have hc : w1.cell? ⟨w.heap.size + 1 + 1, 0, none⟩ = some (.int .u64 11) := by
    have h := hblk.cell (k := 0) (by decide)
    rw [(heap_two w _ _).2.2] at h
    rw [h]
    have e : nthW [11] 0 = 11 := by decide +kernel
    rw [e]
    rfl
  have HB := Lib.hid hb0
  clear hblk hbel hb0
  have q1 := label_awake
  have q2 := guard_label
  go_wp2_with (first
    | (go_at_call 9; (with_reducible refine (floor_awake _).mono ?_); rintro e w' ⟨rfl, rfl⟩)
    | (go_at_call 10; (with_reducible refine (less_awake _).mono ?_); rintro e w' ⟨rfl, rfl⟩)
    | (go_at_call 11; (with_reducible refine (double_awake _).mono ?_); rintro e w2 ⟨rfl, hb2⟩))
  go_ret
  exact ⟨rfl, HB.out.trans (hb2.mono HB.out.size)⟩
end Go.Proofs.YtpjhbdhpphgldaaDoor
