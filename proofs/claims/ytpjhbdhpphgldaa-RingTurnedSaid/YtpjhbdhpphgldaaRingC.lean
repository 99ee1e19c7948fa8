/-
  Walks of the laws' own helpers over the ring: square, times, turned, and the fixed fact awake.
-/
import Derived.Test.YtpjhbdhpphgldaaRingB
import Derived.Test.YtpjhbdhpphgldaaMat
import Derived.Laws.CopyOwn
import Derived.Test.YtpjhbdhpphgldaaLab
namespace Go.Proofs.Ytpjhbdhpphgldaa
set_option linter.unusedVariables false
set_option linter.unusedSimpArgs false
open Go.RowKit
attribute [local go_sem ↓] u64_add u64_mul u64_beq u64_bne

theorem Mat_fit (A A' : Option Addr) (c c' : Nat) (l l' : List UInt64) (m k n : Nat) (x y : Nat) (mi ki ni : Int) (w : World)
    (hm1 : 1 ≤ m) (hm : m ≤ 1024) (hk1 : 1 ≤ k) (hk : k ≤ 1024) (hn1 : 1 ≤ n) (hn : n ≤ 1024) (hl : l.length = m * k) (hl' : l'.length = k * n) (hx : l.length = x) (hy : l'.length = y)
    (em : mi = m) (ek : ki = k) (en : ni = n)
    (hA : Rd w w.heap.size A (l.map U)) (hA' : Rd w w.heap.size A' (l'.map U)) :
    Calls Try.prog 20 #[.slice A x c, .slice A' y c', .int .i64 mi, .int .i64 ki, .int .i64 ni] w fun e w' =>
      e = .returned (.tuple #[.slice (some ⟨w.heap.size, 0, none⟩) (m * n) (m * n), .nilIface]) ∧ BlkW w' 22 w.heap.size (matW l l' m k n) ∧ Below w.heap.size w w' := by
  subst hx hy em ek en
  exact Mat_yes A A' c c' l l' m k n w hm1 hm hk1 hk hn1 hn hl hl' hA hA'

/-- The first nine words. -/
def sqW (l : List UInt64) : List UInt64 := (List.range 9).map (nthW l)
theorem length_sqW (l : List UInt64) : (sqW l).length = 9 := by unfold sqW; simp
theorem nthW_sqW (l : List UInt64) {k : Nat} (h : k < 9) : nthW (sqW l) k = nthW l k := nthW_range _ _ h
attribute [irreducible] sqW
def headV (l : List UInt64) : List Value := (l.take 9).map U
theorem length_headV (l : List UInt64) : (headV l).length = Nat.min l.length 9 := by unfold headV; rw [List.length_map, List.length_take]; exact Nat.min_comm _ _
theorem splice_sqW (l : List UInt64) : splice ((zerosW 9).map U) 0 (headV l) = (sqW l).map U := by
  have : splice (zerosW 9) 0 (l.take 9) = sqW l := by
    apply extW
    · rw [length_splice _ _ _ (by rw [length_zerosW, List.length_take]; omega), length_zerosW, length_sqW]
    · intro k hk
      rw [length_splice _ _ _ (by rw [length_zerosW, List.length_take]; omega), length_zerosW] at hk
      rw [nthW_sqW l hk]
      unfold splice
      by_cases h : k < l.length
      · rw [nthW_eq, nthW_eq, List.getD_eq_getElem?_getD, List.getD_eq_getElem?_getD]
        simp only [List.take_zero, List.nil_append, Nat.zero_add]
        rw [List.getElem?_append_left (by simp; omega), List.getElem?_take, if_pos hk]
      · rw [nthW_oob l (by omega), nthW_eq, List.getD_eq_getElem?_getD]
        simp only [List.take_zero, List.nil_append, Nat.zero_add]
        rw [List.getElem?_append_right (by simp; omega), List.getElem?_drop]
        have := nthW_zeros 9 ((List.take 9 l).length + (k - (List.take 9 l).length))
        rw [nthW_eq, List.getD_eq_getElem?_getD] at this
        exact this
  rw [← this]
  unfold splice headV
  simp
theorem oneCell_headV (l : List UInt64) : ∀ v ∈ headV l, v.oneCell' = true := by
  intro v hv
  obtain ⟨x, _, rfl⟩ := List.mem_map.1 hv
  rfl
theorem Rd.headV {w w' : World} {A : Option Addr} {l : List UInt64} (h : Rd w w.heap.size A (l.map U)) (hb : Below w.heap.size w w') (h0 : 0 < (headV l).length) :
    ∃ ad, A = some ad ∧ ∀ j v, (Ytpjhbdhpphgldaa.headV l)[j]? = some v → w'.cell? (ad.add j) = some v := by
  have h9 := h.take 9
  rw [← List.map_take] at h9
  rcases h9 with h9 | ⟨b, o, rfl, hb1, hc⟩
  · unfold Ytpjhbdhpphgldaa.headV at h0
    rw [h9] at h0
    simp at h0
  · refine ⟨⟨b, o, none⟩, rfl, fun j v hv => ?_⟩
    have e : (⟨b, o, none⟩ : Addr).add j = ⟨b, o + j, none⟩ := by unfold Addr.add; split <;> simp_all
    rw [e]
    exact (hb.cell (p := ⟨b, o + j, none⟩) hb1).trans (hc j v hv)
attribute [irreducible] headV
theorem word_size : (Try.prog.info? 22).map (·.size) = some 1 := by kernel_rfl
set_option maxRecDepth 100000 in
set_option maxHeartbeats 400000 in
theorem square_any (A : Option Addr) (c : Nat) (l : List UInt64) (w : World) (hl : l.length ≤ 9223372036854775807) (hA : Rd w w.heap.size A (l.map U)) :
    Calls Try.prog 11 #[.slice A l.length c] w fun e w' =>
      e = .returned (.slice (some ⟨w.heap.size, 0, none⟩) 9 9) ∧ BlkW w' 22 w.heap.size (sqW l) ∧ Below w.heap.size w w' := by
  have hmake := fun w => make_words 9 (by omega) w 9 rfl
  have hb0 : Below w.heap.size w (w.alloc (.cells ((zerosW 9).map U).toArray 22)) := (Below.refl _ _).alloc (Nat.le_refl _) _
  go_enter Try.func11, Try.ntmps11
  have s1 := heap_alloc_new w (.cells ((zerosW 9).map U).toArray 22)
  have s2 := Lib.hid (length_headV l)
  have s3 := fun h0 => hA.headV hb0 h0
  have s4 : 0 + (headV l).length ≤ ((zerosW 9).map U).length := by rw [length_headV, List.length_map, length_zerosW, Nat.zero_add]; exact Nat.min_le_right _ _
  have s5 := oneCell_headV l
  have S1 := Lib.hid s1
  have S3 := Lib.hid s3
  have S4 := Lib.hid s4
  have S5 := Lib.hid s5
  clear s1 s3 s4 s5
  go_wp2_with (with_reducible refine wpList_copy_splice rfl (.tmp 5) (.tmp 6) _ _ rfl 22 Try.underlying27 word_size (some ⟨w.heap.size, 0, none⟩) A 9 9 l.length c rfl rfl w.heap.size 0 ((zerosW 9).map U) 22 S1.out (headV l) s2.out (fun h0 => ⟨rfl, S3.out h0⟩) S4.out S5.out w.heap.size w hb0 (Nat.le_refl _) ?_)
  intro w2 hg2 hb2
  rw [splice_sqW] at hg2
  go_wp2
  go_ret
  exact ⟨rfl, hg2.out, hb2⟩

theorem heap_two (w : World) (o o' : Obj) : ((w.alloc o).alloc o').heap[w.heap.size]? = some o ∧ ((w.alloc o).alloc o').heap[w.heap.size + 1]? = some o' ∧ ((w.alloc o).alloc o').heap.size = w.heap.size + 1 + 1 := by
  refine ⟨?_, ?_, ?_⟩
  · rw [Below.heap_alloc (w.alloc o) o' w.heap.size (by simp)]; exact heap_alloc_new w o
  · have h := heap_alloc_new (w.alloc o) o'
    simpa using h
  · simp
theorem words_two (w : World) (x y x' y' : UInt64) : Rd ((w.alloc (.cells #[U x, U y] 22)).alloc (.cells #[U x', U y'] 22)) ((w.alloc (.cells #[U x, U y] 22)).alloc (.cells #[U x', U y'] 22)).heap.size (some ⟨w.heap.size, 0, none⟩) ([x, y].map U) ∧
    Rd ((w.alloc (.cells #[U x, U y] 22)).alloc (.cells #[U x', U y'] 22)) ((w.alloc (.cells #[U x, U y] 22)).alloc (.cells #[U x', U y'] 22)).heap.size (some ⟨w.heap.size + 1, 0, none⟩) ([x', y'].map U) := by
  obtain ⟨h1, h2, h3⟩ := heap_two w (.cells #[U x, U y] 22) (.cells #[U x', U y'] 22)
  exact ⟨Rd.of_block h1 (by omega) (by simp), Rd.of_block h2 (by omega) (by simp)⟩
theorem mat_awake : matW [1, 2] [3, 4] 1 2 1 = [11] := by decide +kernel
-- Lists of nine words.
set_option maxRecDepth 100000 in
set_option maxHeartbeats 400000 in
theorem times_any (A A' : Option Addr) (c c' : Nat) (l l' : List UInt64) (x y : Nat) (w : World) (h9 : l.length = 9) (h9' : l'.length = 9) (hx : x = 9) (hy : y = 9)
    (hA : Rd w w.heap.size A (l.map U)) (hA' : Rd w w.heap.size A' (l'.map U)) :
    Calls Try.prog 12 #[.slice A x c, .slice A' y c'] w fun e w' =>
      e = .returned (.slice (some ⟨w.heap.size, 0, none⟩) 9 9) ∧ BlkW w' 22 w.heap.size (matW l l' 3 3 3) ∧ Below w.heap.size w w' := by
  subst hx hy
  go_enter Try.func12, Try.ntmps12
  go_wp2_with fail
  refine (Mat_fit A A' c c' l l' 3 3 3 9 9 3 3 3 w (by omega) (by omega) (by omega) (by omega) (by omega) (by omega) h9 h9' h9 h9' rfl rfl rfl hA hA').mono ?_
  rintro e w1 ⟨rfl, hblk, hbel⟩
  clear h9 h9' hA hA'
  have HB := Lib.hid hblk
  have HW := Lib.hid hbel
  clear hblk hbel
  go_wp2
  go_ret
  exact ⟨rfl, HB.out, HW.out⟩
/-- Rows as columns. -/
def tuW (l : List UInt64) : List UInt64 := (List.range 9).map fun p => nthW l (p % 3 * 3 + p / 3)
theorem length_tuW (l : List UInt64) : (tuW l).length = 9 := by unfold tuW; simp
theorem nthW_tuW (l : List UInt64) {p : Nat} (h : p < 9) : nthW (tuW l) p = nthW l (p % 3 * 3 + p / 3) := nthW_range _ _ h
def tuSt (l : List UInt64) (i : Nat) : List UInt64 := (List.range 9).map fun p => if p % 3 * 3 + p / 3 < i then nthW l (p % 3 * 3 + p / 3) else 0
theorem length_tuSt (l : List UInt64) (i : Nat) : (tuSt l i).length = 9 := by unfold tuSt; simp
theorem tuSt_start (l : List UInt64) : zerosW 9 = tuSt l 0 := by
  apply extW (by rw [length_zerosW, length_tuSt])
  intro p hp
  rw [length_zerosW] at hp
  unfold tuSt
  rw [nthW_zeros, nthW_range _ _ hp, if_neg (by omega)]
theorem tuSt_step (l : List UInt64) (i : Nat) (h : i < 9) : (tuSt l i).set (i % 3 * 3 + i / 3) (nthW l i) = tuSt l (i + 1) := by
  apply extW (by rw [List.length_set, length_tuSt, length_tuSt])
  intro p hp
  rw [List.length_set, length_tuSt] at hp
  by_cases hpr : p = i % 3 * 3 + i / 3
  · subst hpr
    rw [nthW_set_same _ _ _ (by rw [length_tuSt]; omega)]
    unfold tuSt
    rw [nthW_range _ _ hp, if_pos (by omega)]
    congr 1
    omega
  · rw [nthW_set_other _ _ hpr]
    unfold tuSt
    rw [nthW_range _ _ hp, nthW_range _ _ hp]
    by_cases h1 : p % 3 * 3 + p / 3 < i
    · rw [if_pos h1, if_pos (by omega)]
    · rw [if_neg h1, if_neg (by omega)]
theorem tuSt_end (l : List UInt64) : tuSt l 9 = tuW l := by
  apply extW (by rw [length_tuSt, length_tuW])
  intro p hp
  rw [length_tuSt] at hp
  rw [nthW_tuW l hp]
  unfold tuSt
  rw [nthW_range _ _ hp, if_pos (by omega)]
attribute [irreducible] tuW tuSt
set_option maxRecDepth 100000 in
set_option maxHeartbeats 400000 in
theorem turned_any (A : Option Addr) (c : Nat) (l : List UInt64) (x : Nat) (w : World) (h9 : l.length = 9) (hx : x = 9) (hA : Rd w w.heap.size A (l.map U)) :
    Calls Try.prog 19 #[.slice A x c] w fun e w' =>
      e = .returned (.slice (some ⟨w.heap.size, 0, none⟩) 9 9) ∧ BlkW w' 22 w.heap.size (tuW l) ∧ Below w.heap.size w w' := by
  subst hx
  have H9 := Lib.hid h9
  clear h9
  have hmake := fun w => make_words 9 (by omega) w 9 rfl
  go_enter Try.func19, Try.ntmps19
  go_wp2
  clear hmake
  go_loopw [10] (fun i wr => ∃ n : Nat, n ≤ 9 ∧ i = .int .i64 n ∧ BlkW wr 22 w.heap.size (tuSt l n) ∧ Below w.heap.size w wr) (fun i _ => 9 - (intOf i).toNat)
  case atStart => exact ⟨0, by omega, rfl, by rw [← tuSt_start]; exact heap_alloc_new w _, (Below.refl _ _).alloc (Nat.le_refl _) _⟩
  case round =>
    obtain ⟨n, hn, rfl, hblk, hbel⟩ := hrel
    by_cases hlt : n < 9
    · obtain ⟨b, o, rfl, hb, hc⟩ := hA.word (k := n) (by rw [H9.out]; exact hlt)
      have g1 : wr.cell? ⟨b, o + n, none⟩ = some (U (nthW l n)) := (hbel.cell (p := ⟨b, _, none⟩) hb).trans hc
      have g3 := hblk.cell (k := n % 3 * 3 + n / 3) (by rw [length_tuSt]; omega)
      have g4 := hblk.free (n % 3 * 3 + n / 3)
      have HS := Lib.hid (tuSt_step l n hlt)
      have HB := Lib.hid hblk
      have HW := Lib.hid hbel
      clear hA hc hblk hbel
      go_wp2
      exact ⟨⟨n + 1, by omega, by go_num, by have h := HB.out.set (n % 3 * 3 + n / 3) (nthW l n); rw [HS.out] at h; exact h, HW.out.setCell (p := ⟨w.heap.size, n % 3 * 3 + n / 3, none⟩) (Nat.le_refl _) _⟩, by simp [intOf]; omega⟩
    · obtain rfl : n = 9 := by omega
      rw [tuSt_end] at hblk
      have HB := Lib.hid hblk
      have HW := Lib.hid hbel
      clear hblk hbel
      go_wp2
      go_ret
      exact ⟨rfl, HB.out, HW.out⟩
theorem floor_awake (w : World) : Calls Try.prog 10 #[.int .u64 18446744073709551613, .int .i64 1] w fun e w' => e = .returned (.int .u64 18446744073709551614) ∧ w = w' := by
  have h := Floor_any 18446744073709551613 1 w
  have e1 : ((18446744073709551613 : UInt64).toNat : Int) = 18446744073709551613 := by decide +kernel
  have e2 : ((sarW 18446744073709551613 (min (max (1 : Int) 0) 63).toNat).toNat : Int) = 18446744073709551614 := by decide +kernel
  simp only [U, e1, e2] at h
  exact h
theorem less_awake (w : World) : Calls Try.prog 14 #[.int .u64 18446744073709551615, .int .u64 0] w fun e w' => e = .returned (.int .u64 1) ∧ w = w' := by
  have h := Less_any 18446744073709551615 0 w
  have e1 : ((18446744073709551615 : UInt64).toNat : Int) = 18446744073709551615 := by decide +kernel
  have e2 : ((oneW (sltW 18446744073709551615 0)).toNat : Int) = 1 := by decide +kernel
  have e3 : ((0 : UInt64).toNat : Int) = 0 := by decide +kernel
  simp only [U, e1, e2, e3] at h
  exact h
theorem double_awake (w : World) : Calls Try.prog 17 #[.agg #[.int .u64 0, .int .u64 9223372036854775808]] w fun e w' => e = .returned (.agg #[.int .u64 135, .int .u64 0]) ∧ Below w.heap.size w w' := by
  have h := Double_any 0 9223372036854775808 w
  have e1 : ((9223372036854775808 : UInt64).toNat : Int) = 9223372036854775808 := by decide +kernel
  have e2 : ((dblLo 0 9223372036854775808).toNat : Int) = 135 := by decide +kernel
  have e3 : ((dblHi 0 9223372036854775808).toNat : Int) = 0 := by decide +kernel
  have e4 : ((0 : UInt64).toNat : Int) = 0 := by decide +kernel
  simp only [U, e1, e2, e3, e4] at h
  exact h
set_option maxRecDepth 100000 in
set_option maxHeartbeats 400000 in
theorem awake_any (w : World) : Calls Try.prog 9 #[] w fun e w' => e = .returned (.bool true) ∧ Below w.heap.size w w' := by
  go_enter Try.func9, Try.ntmps9
  go_wp2_with fail
  refine (Mat_fit _ _ _ _ [1, 2] [3, 4] 1 2 1 2 2 1 2 1 _ (by omega) (by omega) (by omega) (by omega) (by omega) (by omega) rfl rfl rfl rfl rfl rfl rfl ?a1 ?a2).mono ?_
  case a1 => exact (words_two w 1 2 3 4).1
  case a2 => exact (words_two w 1 2 3 4).2
  rintro e w1 ⟨rfl, hblk, hbel⟩
  rw [mat_awake] at hblk
  have hb0 : Below w.heap.size w w1 := (((Below.refl _ _).alloc (Nat.le_refl _) _).alloc (by simp) _).trans (hbel.mono (by simp; omega))
  have hc : w1.cell? ⟨w.heap.size + 1 + 1, 0, none⟩ = some (.int .u64 11) := by
    have h := hblk.cell (k := 0) (by decide)
    rw [(heap_two w _ _).2.2] at h
    rw [h]
    have e : nthW [11] 0 = 11 := by decide +kernel
    rw [e]
    rfl
  have HB := Lib.hid hb0
  clear hblk hbel hb0
  have q1 := label_awake
  have q2 := guard_label
  go_wp2_with (first
    | (go_at_call 10; (with_reducible refine (floor_awake _).mono ?_); rintro e w' ⟨rfl, rfl⟩)
    | (go_at_call 14; (with_reducible refine (less_awake _).mono ?_); rintro e w' ⟨rfl, rfl⟩)
    | (go_at_call 17; (with_reducible refine (double_awake _).mono ?_); rintro e w2 ⟨rfl, hb2⟩))
  go_ret
  exact ⟨rfl, HB.out.trans (hb2.mono HB.out.size)⟩
end Go.Proofs.Ytpjhbdhpphgldaa
