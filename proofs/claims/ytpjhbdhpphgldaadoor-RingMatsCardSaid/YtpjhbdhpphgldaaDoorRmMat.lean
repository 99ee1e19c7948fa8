/-
  The walk of ring.Mat.
-/
import Derived.Test.YtpjhbdhpphgldaaDoorRmA
import Derived.Test.YtpjhbdhpphgldaaDoorMatL
import Derived.BigQuiet
import Derived.Deep.QuietTactic
import Derived.Deep.OwnRows
namespace Go.Proofs.YtpjhbdhpphgldaaDoor
set_option linter.unusedVariables false
set_option linter.unusedSimpArgs false
open Go.RowKit
attribute [local go_sem ↓] u64_add u64_mul u64_beq u64_bne
theorem word_info : (Tryd.prog.info? 25).map (fun i => (i.zero, i.size, i.bytes)) = some (some (.int .u64 0), 1, 8) := by kernel_rfl
/-- 'make([]uint64, n)'. -/
theorem make_words (n : Nat) (hn : n ≤ 1099511627776) (w : World) (e : Int) (he : e = n) :
    (Instr.makeSlice 22 (.int .i64 e) (.int .i64 e)).run Tryd.prog w = .ok (.slice (some ⟨w.heap.size, 0, none⟩) n n) (w.alloc (.cells ((zerosW n).map U).toArray 25)) := by
  obtain ⟨i0, hi0, hz0, hz1, hz2⟩ := info_parts word_info
  have hr := run_make (P := Tryd.prog) w 22 25 i0 (.int .u64 0) Tryd.underlying22 hi0 hz0 .i64 .i64 e e (by omega) (by omega) (by rw [hz2]; omega) (by omega)
  rw [hr, he, hz1]
  have : (madeCells (Value.int .u64 0).cells ((n : Int).toNat * 1)) = ((zerosW n).map U).toArray := by
    apply Array.ext'
    rw [show (Value.int .u64 0).cells = #[Value.int .u64 0] from rfl, toList_madeCells_one]
    unfold zerosW
    simp
  rw [this]
  rfl
set_option maxRecDepth 100000 in
set_option maxHeartbeats 1000000 in
theorem Mat_yes (A A' : Option Addr) (c c' : Nat) (l l' : List UInt64) (m k n : Nat) (w : World)
    (hm1 : 1 ≤ m) (hm : m ≤ 1024) (hk1 : 1 ≤ k) (hk : k ≤ 1024) (hn1 : 1 ≤ n) (hn : n ≤ 1024) (hl : l.length = m * k) (hl' : l'.length = k * n)
    (hA : Rd w w.heap.size A (l.map U)) (hA' : Rd w w.heap.size A' (l'.map U)) :
    Calls Tryd.prog 5 #[.slice A l.length c, .slice A' l'.length c', .int .i64 m, .int .i64 k, .int .i64 n] w fun e w' =>
      e = .returned (.tuple #[.slice (some ⟨w.heap.size, 0, none⟩) (m * n) (m * n), .nilIface]) ∧ BlkW w' 25 w.heap.size (matW l l' m k n) ∧ Below w.heap.size w w' := by
  have hmn : m * n ≤ 1048576 := Nat.mul_le_mul hm hn
  have hmk : m * k ≤ 1048576 := Nat.mul_le_mul hm hk
  have hkn : k * n ≤ 1048576 := Nat.mul_le_mul hk hn
  have t1 : ((l.length : Int) != (m : Int) * (k : Int)) = false := by rw [hl]; simp
  have t2 : ((l'.length : Int) != (k : Int) * (n : Int)) = false := by rw [hl']; simp
  have HL := Lib.hid hl
  have HL' := Lib.hid hl'
  clear hl hl'
  have q1 : decide ((m : Int) < 1) = false := by simp; omega
  have q2 : decide ((1024 : Int) < (m : Int)) = false := by simp; omega
  have q3 : decide ((k : Int) < 1) = false := by simp; omega
  have q4 : decide ((1024 : Int) < (k : Int)) = false := by simp; omega
  have q5 : decide ((n : Int) < 1) = false := by simp; omega
  have q6 : decide ((1024 : Int) < (n : Int)) = false := by simp; omega
  have hmake := fun w => make_words (m * n) (by omega) w ((m : Int) * (n : Int)) (by simp)
  go_enter Tryd.func5, Tryd.ntmps5
  go_wp2
  clear hmake t1 t2 q1 q2 q3 q4 q5 q6
  go_loopw [60] (fun i wr => ∃ p : Nat, p ≤ m ∧ i = .int .i64 p ∧ BlkW wr 25 w.heap.size (stW l l' m k n (p * n) 0) ∧ Below w.heap.size w wr) (fun i _ => m - (intOf i).toNat)
  case atStart => exact ⟨0, by omega, rfl, by rw [Nat.zero_mul, ← stW_start]; exact heap_alloc_new w _, (Below.refl _ _).alloc (Nat.le_refl _) _⟩
  case round =>
    obtain ⟨p, hp, rfl, hblk, hbel⟩ := hrel
    obtain ⟨wo, rfl⟩ : ∃ wo : World, wo = wr := ⟨_, rfl⟩
    by_cases hlt : p < m
    · go_wp2
      go_loopw [64] (fun j wr => ∃ q : Nat, q ≤ n ∧ j = .int .i64 q ∧ BlkW wr 25 w.heap.size (stW l l' m k n (p * n + q) 0) ∧ Below w.heap.size w wr) (fun j _ => n - (intOf j).toNat)
      case atStart => exact ⟨0, by omega, rfl, hblk, hbel⟩
      case round =>
        clear hblk hbel
        obtain ⟨q, hq, rfl, hblk, hbel⟩ := hrel
        obtain ⟨wm, rfl⟩ : ∃ wm : World, wm = wr := ⟨_, rfl⟩
        by_cases hlq : q < n
        · go_wp2
          go_loopw [68] (fun t wr => ∃ s : Nat, s ≤ k ∧ t = .int .i64 s ∧ BlkW wr 25 w.heap.size (stW l l' m k n (p * n + q) s) ∧ Below w.heap.size w wr) (fun t _ => k - (intOf t).toNat)
          case atStart => exact ⟨0, by omega, rfl, hblk, hbel⟩
          case round =>
            clear hblk hbel
            obtain ⟨s, hs, rfl, hblk, hbel⟩ := hrel
            by_cases hls : s < k
            · have f1 : p * n + q < m * n := by
                have h1 : (p + 1) * n ≤ m * n := Nat.mul_le_mul_right n hlt
                rw [Nat.add_mul] at h1
                omega
              have f2 : p * k + s < l.length := by
                have h1 : (p + 1) * k ≤ m * k := Nat.mul_le_mul_right k hlt
                rw [Nat.add_mul] at h1
                rw [HL.out]
                omega
              have f3 : s * n + q < l'.length := by
                have h1 : (s + 1) * n ≤ k * n := Nat.mul_le_mul_right n hls
                rw [Nat.add_mul] at h1
                rw [HL'.out]
                omega
              have f4 : l.length ≤ 1048576 := by rw [HL.out]; exact hmk
              have f5 : l'.length ≤ 1048576 := by rw [HL'.out]; exact hkn
              obtain ⟨b, o, hAe, hb1, hc1⟩ := hA.word f2
              obtain ⟨b', o', hAe', hb2, hc2⟩ := hA'.word f3
              have g1 : wr.cell? ⟨b, o + (p * k + s), none⟩ = some (U (nthW l (p * k + s))) := (hbel.cell (p := ⟨b, _, none⟩) hb1).trans hc1
              have g2 : wr.cell? ⟨b', o' + (s * n + q), none⟩ = some (U (nthW l' (s * n + q))) := (hbel.cell (p := ⟨b', _, none⟩) hb2).trans hc2
              have g3 := hblk.cell (k := p * n + q) (by rw [length_stW]; exact f1)
              have g4 := hblk.free (p * n + q)
              have HS := Lib.hid (stW_cell l l' m k n p q s hlt hlq)
              have HB := Lib.hid hblk
              have HW := Lib.hid hbel
              clear hA hA' hc1 hc2 hblk hbel
              subst hAe hAe'
              go_wp2
              go_region
              go_wp2
              exact ⟨⟨s + 1, by omega, by go_num, by have h := HB.out.set (p * n + q) (addW (nthW (stW l l' m k n (p * n + q) s) (p * n + q)) (mulW (nthW l (p * k + s)) (nthW l' (s * n + q)))); rw [HS.out] at h; exact h.drew, (HW.out.setCell (p := ⟨w.heap.size, p * n + q, none⟩) (Nat.le_refl _) _).drew⟩, by simp [intOf]; omega⟩
            · obtain rfl : s = k := by omega
              rw [stW_full] at hblk
              have HB := Lib.hid hblk
              have HW := Lib.hid hbel
              clear hblk hbel
              go_wp2
              exact ⟨⟨q + 1, by omega, by go_num, HB.out, HW.out⟩, by simp [intOf]; omega⟩
        · obtain rfl : q = n := by omega
          have e : p * q + q = (p + 1) * q := by rw [Nat.add_mul, Nat.one_mul]
          rw [e] at hblk
          have HB := Lib.hid hblk
          have HW := Lib.hid hbel
          clear hblk hbel e
          go_wp2
          exact ⟨⟨p + 1, by omega, by go_num, HB.out, HW.out⟩, by simp [intOf]; omega⟩
    · obtain rfl : p = m := by omega
      rw [stW_end] at hblk
      have HB := Lib.hid hblk
      have HW := Lib.hid hbel
      clear hblk hbel
      go_wp2
      go_ret2
      exact ⟨rfl, HB.out, HW.out⟩
/-- When do the sizes fit? -/
def fitsM (x y : Nat) (m k n : Int) : Prop := 1 ≤ m ∧ m ≤ 1024 ∧ 1 ≤ k ∧ k ≤ 1024 ∧ 1 ≤ n ∧ n ≤ 1024 ∧ (x : Int) = m * k ∧ (y : Int) = k * n
set_option maxRecDepth 100000 in
set_option maxHeartbeats 1000000 in
theorem Mat_no (A A' : Option Addr) (c c' : Nat) (x y : Nat) (m k n : Int) (w : World) (hx : x ≤ 9223372036854775807) (hy : y ≤ 9223372036854775807) (h : ¬ fitsM x y m k n) :
    Calls Tryd.prog 5 #[.slice A x c, .slice A' y c', .int .i64 m, .int .i64 k, .int .i64 n] w fun e w' =>
      e = .returned (.tuple #[.slice none 0 0, .iface 31 (.int .i64 1)]) ∧ w = w' := by
  by_cases a1 : m < 1
  · have q1 : decide (m < 1) = true := by simpa using a1
    clear h
    go_enter Tryd.func5, Tryd.ntmps5
    go_wp2
    go_ret2
    exact ⟨rfl, rfl⟩
  have q1 : decide (m < 1) = false := by simpa using a1
  by_cases a2 : 1024 < m
  · have q2 : decide (1024 < m) = true := by simpa using a2
    clear h
    go_enter Tryd.func5, Tryd.ntmps5
    go_wp2
    go_ret2
    exact ⟨rfl, rfl⟩
  have q2 : decide (1024 < m) = false := by simpa using a2
  by_cases a3 : k < 1
  · have q3 : decide (k < 1) = true := by simpa using a3
    clear h
    go_enter Tryd.func5, Tryd.ntmps5
    go_wp2
    go_ret2
    exact ⟨rfl, rfl⟩
  have q3 : decide (k < 1) = false := by simpa using a3
  by_cases a4 : 1024 < k
  · have q4 : decide (1024 < k) = true := by simpa using a4
    clear h
    go_enter Tryd.func5, Tryd.ntmps5
    go_wp2
    go_ret2
    exact ⟨rfl, rfl⟩
  have q4 : decide (1024 < k) = false := by simpa using a4
  by_cases a5 : n < 1
  · have q5 : decide (n < 1) = true := by simpa using a5
    clear h
    go_enter Tryd.func5, Tryd.ntmps5
    go_wp2
    go_ret2
    exact ⟨rfl, rfl⟩
  have q5 : decide (n < 1) = false := by simpa using a5
  by_cases a6 : 1024 < n
  · have q6 : decide (1024 < n) = true := by simpa using a6
    clear h
    go_enter Tryd.func5, Tryd.ntmps5
    go_wp2
    go_ret2
    exact ⟨rfl, rfl⟩
  have q6 : decide (1024 < n) = false := by simpa using a6
  have b1 : m * k ≤ 1024 * 1024 := Int.mul_le_mul (by omega) (by omega) (by omega) (by omega)
  have b2 : k * n ≤ 1024 * 1024 := Int.mul_le_mul (by omega) (by omega) (by omega) (by omega)
  have b3 : 0 ≤ m * k := Int.mul_nonneg (by omega) (by omega)
  have b4 : 0 ≤ k * n := Int.mul_nonneg (by omega) (by omega)
  by_cases a7 : (x : Int) = m * k
  · have q7 : ((x : Int) != m * k) = false := by rw [a7]; simp
    have a8 : (y : Int) ≠ k * n := fun a8 => h ⟨by omega, by omega, by omega, by omega, by omega, by omega, a7, a8⟩
    have q8 : ((y : Int) != k * n) = true := by simpa using a8
    clear h a7 a8
    go_enter Tryd.func5, Tryd.ntmps5
    go_wp2
    go_ret2
    exact ⟨rfl, rfl⟩
  · have q7 : ((x : Int) != m * k) = true := by simpa using a7
    clear h a7
    go_enter Tryd.func5, Tryd.ntmps5
    go_wp2
    go_ret2
    exact ⟨rfl, rfl⟩
end Go.Proofs.YtpjhbdhpphgldaaDoor
