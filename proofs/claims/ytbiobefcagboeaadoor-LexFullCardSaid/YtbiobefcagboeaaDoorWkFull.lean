/-
  The walk of the law LexFull.
-/
import Derived.Test.YtbiobefcagboeaaDoorLAwake
import Derived.Test.YtbiobefcagboeaaDoorPlaces
import Derived.Test.YtbiobefcagboeaaDoorIs
import Derived.Test.YtbiobefcagboeaaDoorFullL
import Derived.Test.YtbiobefcagboeaaDoorConv
import Derived.Test.YtbiobefcagboeaaDoorSet
namespace Go.Proofs.YtbiobefcagboeaaDoor
set_option linter.unusedVariables false
set_option linter.unusedSimpArgs false
open Go.RowKit
/-- A block of bytes. -/
def BlkB (w : World) (g : Nat) (l : List UInt8) : Prop := w.heap[g]? = some (.cells (l.map V8).toArray 5 (0, 0))
section
variable {w w' : World} {g : Nat} {l : List UInt8}
theorem BlkB.store (h : BlkB w g l) (i : Nat) (c : UInt8) (hi : i < l.length) : BlkB (w.setCell ⟨g, i, none⟩ (V8 c)) g (l.set i c) := by
  unfold BlkB at h ⊢
  rw [heap_setCell_same _ _ _ _ _ _ h]
  simp [List.map_set]
theorem BlkB.next (h : BlkB w g l) (hb : Below w.heap.size w w') : BlkB w' g l := (hb.block g (Array.getElem?_eq_some_iff.1 h).1).trans h
theorem BlkB.free (h : BlkB w g l) (i : Nat) : w.frozen? ⟨g, i, none⟩ = false := free_row h i
theorem BlkB.cell (h : BlkB w g l) {i : Nat} {c : UInt8} (hi : l[i]? = some c) : w.cell? ⟨g, i, none⟩ = some (V8 c) := by
  rw [cell_of_row w g i _ _ (0, 0) h]
  simp [hi]
theorem BlkB.conv (h : BlkB w g l) (n : Nat) (hn : l.length = n) : (convert 43 9 (.slice (some ⟨g, 0, none⟩) n n)).run Tryd.prog w = .ok (.string (strB l)) w :=
  conv_bytes (some ⟨g, 0, none⟩) n n l w.heap.size w hn (Rd.of_block h (Array.getElem?_eq_some_iff.1 h).1 (by simp))
end
theorem u8_info : (Tryd.prog.info? 5).map (fun i => (i.zero, i.size, i.bytes)) = some (some (.int .u8 0), 1, 1) := by kernel_rfl
def zeroB (n : Nat) : List UInt8 := List.replicate n 0
theorem zeroB_len (n : Nat) : (zeroB n).length = n := by unfold zeroB; simp
theorem make_bytes (n : Nat) (hn : n ≤ 1048576) (w : World) (e : Int) (he : e = n) :
    (Instr.makeSlice 43 (.int .i64 e) (.int .i64 e)).run Tryd.prog w = .ok (.slice (some ⟨w.heap.size, 0, none⟩) n n) (w.alloc (.cells ((zeroB n).map V8).toArray 5)) := by
  obtain ⟨i0, hi0, hz0, hz1, hz2⟩ := info_parts u8_info
  have hr := run_make (P := Tryd.prog) w 43 5 i0 (.int .u8 0) Tryd.underlying43 hi0 hz0 .i64 .i64 e e (by omega) (by omega) (by rw [hz2]; omega) (by omega)
  rw [hr, he, hz1]
  have : (madeCells (Value.int .u8 0).cells ((n : Int).toNat * 1)) = ((zeroB n).map V8).toArray := by
    apply Array.ext'
    rw [show (Value.int .u8 0).cells = #[Value.int .u8 0] from rfl, toList_madeCells_one]
    unfold zeroB
    simp
  rw [this]
  rfl
attribute [irreducible] zeroB
def Fill1 (W : World) (g : Nat) (iv : Value) (wr : World) : Prop := ∃ (i : Nat) (l : List UInt8), i ≤ 4096 ∧ iv = .int .i64 i ∧ l.length = 4096 ∧ BlkB wr g l ∧ (∀ j, j < i → l[j]? = some 32) ∧ Below W.heap.size W wr
def Fill2 (W : World) (g : Nat) (iv : Value) (wr : World) : Prop := ∃ (i : Nat) (l : List UInt8), i ≤ 512 ∧ iv = .int .i64 i ∧ l.length = 4096 ∧ BlkB wr g l ∧ (∀ j, j < 4096 → l[j]? = some (if j % 2 = 0 ∧ j < 2 * i then 43 else 32)) ∧ Below W.heap.size W wr
theorem mod512 (x : Int) : ∃ N : Nat, N < 512 ∧ wrap64 ((IntKind.u64.wrap x).tmod 512) = (N : Int) := by
  have h0 : 0 ≤ IntKind.u64.wrap x ∧ IntKind.u64.wrap x < 18446744073709551616 := by
    unfold IntKind.wrap
    simp [IntKind.bits, IntKind.signed]
    omega
  have h1 : (IntKind.u64.wrap x).tmod 512 = IntKind.u64.wrap x % 512 := Int.tmod_eq_emod_of_nonneg h0.1
  have h2 : wrap64 ((IntKind.u64.wrap x).tmod 512) = IntKind.u64.wrap x % 512 := by
    rw [h1]
    exact IntWalk.wrap64_in (IntKind.u64.wrap x % 512) (by omega)
  exact ⟨(IntKind.u64.wrap x % 512).toNat, by omega, by rw [h2]; omega⟩
set_option maxRecDepth 100000 in
set_option maxHeartbeats 4000000 in
theorem LexFull_walk (w : World) (hg : ETyped w) (ht : ErrT w) (x : Int) (hx1 : -9223372036854775808 ≤ x) (hx2 : x ≤ 9223372036854775807) :
    Calls Tryd.prog 7 #[.int .i64 x] w fun e w' => e = .returned (.bool true) ∧ Below w.heap.size w w' := by
  have HTY := Lib.hid ht
  have HG := Lib.hid hg
  obtain ⟨N, hN, hNx⟩ := mod512 x
  clear hg ht
  go_enter Tryd.func7, Tryd.ntmps7
  go_wp2_with fail
  refine (awake_true _ HG.out HTY.out).mono ?_
  rintro e w1 ⟨rfl, b1⟩
  have HG1 := Lib.hid (HG.out.next b1)
  have HT1 := Lib.hid (HTY.out.next b1)
  have HB1 := Lib.hid b1
  clear b1
  have hmk := make_bytes 4096 (by omega) w1 4096 rfl
  go_wp2
  obtain ⟨wa, hwa⟩ : ∃ wa, wa = w1.alloc (.cells ((zeroB 4096).map V8).toArray 5) := ⟨_, rfl⟩
  rw [← hwa]
  have hk0 : BlkB wa w1.heap.size (zeroB 4096) := by rw [hwa]; exact heap_alloc_new _ _
  have HA := Lib.hid (show Below w.heap.size w wa from by rw [hwa]; exact HB1.out.alloc HB1.out.size _)
  have HG1A := Lib.hid (show Below w1.heap.size w1 wa from by rw [hwa]; exact (Below.refl _ _).alloc (Nat.le_refl _) _)
  obtain ⟨g, hgg⟩ : ∃ g, g = w1.heap.size := ⟨_, rfl⟩
  have hgw : w.heap.size ≤ g := by rw [hgg]; exact HB1.out.size
  have HK0 := Lib.hid hk0
  rw [← hgg] at HK0 HG1A
  rw [← hgg]
  clear hmk hwa hk0 hgg
  go_loopw [25] (fun iv wr => Fill1 w g iv wr) (fun iv _ => 4096 - (intOf iv).toNat)
  case atStart => exact ⟨0, zeroB 4096, by omega, rfl, zeroB_len _, HK0.out, fun j hj => absurd hj (by omega), HA.out⟩
  case round =>
    obtain ⟨i, l, hi, rfl, hl, hk, hf, hb⟩ := hrel
    have HK := Lib.hid hk
    have HB := Lib.hid hb
    have HF := Lib.hid hf
    have HL := Lib.hid hl
    clear hk hb hf hl
    by_cases hlt : i < 4096
    · have i0 : (0 : Int) ≤ (i : Int) := by omega
      have i1 : (i : Int) < 4096 := by omega
      have fz := HK.out.free i
      obtain ⟨c, hc⟩ : ∃ c, l[i]? = some c := ⟨_, List.getElem?_eq_getElem (by rw [HL.out]; exact hlt)⟩
      have cz := HK.out.cell hc
      clear hc
      go_wp2
      refine ⟨⟨i + 1, l.set i 32, by omega, by go_num, by rw [List.length_set, HL.out], HK.out.store i 32 (by rw [HL.out]; exact hlt), fun j hj => ?_, HB.out.setCell hgw _⟩, by simp [intOf]; omega⟩
      by_cases hji : j = i
      · subst hji
        exact List.getElem?_set_self (by rw [HL.out]; exact hlt)
      · rw [List.getElem?_set_ne (fun e => hji e.symm)]
        exact HF.out j (by omega)
    · obtain rfl : i = 4096 := by omega
      go_wp2
      go_loopw [5] (fun iv wr => Fill2 w g iv wr) (fun iv _ => 512 - (intOf iv).toNat)
      case atStart => exact ⟨0, l, by omega, rfl, HL.out, HK.out, fun j hj => by rw [HF.out j hj, if_neg (by omega)], HB.out⟩
      case round =>
        obtain ⟨i, l2, hi, rfl, hl, hk, hf, hb⟩ := hrel
        have HK2 := Lib.hid hk
        have HB2 := Lib.hid hb
        have HF2 := Lib.hid hf
        have HL2 := Lib.hid hl
        clear hk hb hf hl HK HB HF HL
        by_cases hlt : i < 512
        · obtain ⟨K, hK⟩ : ∃ K, K = 2 * i := ⟨_, rfl⟩
          have k1 : (2 : Int) * (i : Int) = (K : Int) := by omega
          have k2 : (K : Int) < 4096 := by omega
          have k3 : (0 : Int) ≤ (K : Int) := by omega
          have fz := HK2.out.free K
          obtain ⟨c, hc⟩ : ∃ c, l2[K]? = some c := ⟨_, List.getElem?_eq_getElem (by rw [HL2.out]; omega)⟩
          have cz := HK2.out.cell hc
          have HKK := Lib.hid hK
          clear hc hK
          go_wp2
          have hK := HKK.out
          refine ⟨⟨i + 1, l2.set K 43, by omega, by go_num, by rw [List.length_set, HL2.out], HK2.out.store K 43 (by rw [HL2.out]; omega), fun j hj => ?_, HB2.out.setCell hgw _⟩, by simp [intOf]; omega⟩
          by_cases hji : j = K
          · subst hji
            rw [List.getElem?_set_self (by rw [HL2.out]; omega), if_pos (by omega)]
          · rw [List.getElem?_set_ne (fun e => hji e.symm), HF2.out j hj]
            congr 1
            by_cases hc : j % 2 = 0 ∧ j < 2 * i
            · rw [if_pos hc, if_pos (by omega)]
            · rw [if_neg hc, if_neg (by omega)]
        · obtain rfl : i = 512 := by omega
          obtain rfl : l2 = fullB := fullB_of HL2.out (fun j hj => HF2.out j hj)
          have hcv := HK2.out.conv 4096 HL2.out
          obtain ⟨l3, hs3, hl3⟩ := fullB_scan (strB_data fullB)
          have HS3 := Lib.hid (fun W hW => scan_toks (strB fullB) l3 W (by rw [strB_size, fullB_len]; omega) (HG.out.next (w' := W) hW) (HTY.out.next hW) hs3)
          have HL3 := Lib.hid hl3
          clear hs3 hl3
          go_wp2_with fail
          refine (HS3.out _ HB2.out).mono ?_
          rintro e w3 ⟨b3, A3, cap3, rfl, o3⟩
          rw [HL3.out]
          have HB3 := Lib.hid (bnext HB2.out b3)
          have HK3 := Lib.hid (HK2.out.next b3)
          clear b3 o3 hcv HS3
          obtain ⟨c, hc⟩ : ∃ c, fullB[4095]? = some c := ⟨_, fullB_nth 4095 (by omega)⟩
          have cz := HK3.out.cell hc
          have fz := HK3.out.free 4095
          have HK4 := Lib.hid (show BlkB (w3.setCell ⟨g, 4095, none⟩ (.int .u8 59)) g fullC from HK3.out.store 4095 59 (by rw [fullB_len]; omega))
          have HB4 := Lib.hid (show Below w.heap.size w (w3.setCell ⟨g, 4095, none⟩ (.int .u8 59)) from HB3.out.setCell hgw _)
          have hcv := HK4.out.conv 4096 fullC_len
          have HS5 := Lib.hid (fun W hW => scan_err (strB fullC) 5 4095 W (by rw [strB_size, fullC_len]; omega) (HG.out.next (w' := W) hW) (HTY.out.next hW) (fullC_scan (strB_data fullC)))
          clear hc
          go_wp2_with fail
          refine (HS5.out _ HB4.out).mono ?_
          rintro e w5 ⟨b5, v5, rfl, he5⟩
          have HB5 := Lib.hid (bnext HB4.out b5)
          have HK5 := Lib.hid (HK4.out.next b5)
          have HE5 := Lib.hid he5
          clear b5 he5 hcv HS5 cz fz
          obtain ⟨K, hK⟩ : ∃ K, K = 2 * N := ⟨_, rfl⟩
          have k1 : (2 : Int) * (N : Int) = (K : Int) := by omega
          have k2 : (K : Int) < 4096 := by omega
          have k3 : (0 : Int) ≤ (K : Int) := by omega
          obtain ⟨c, hc⟩ : ∃ c, fullC[K]? = some c := ⟨_, fullC_nth (by omega)⟩
          have cz := HK5.out.cell hc
          have fz := HK5.out.free K
          have hK6 : BlkB (w5.setCell ⟨g, K, none⟩ (.int .u8 32)) g (fullD N) := by
            have h := HK5.out.store K 32 (by rw [fullC_len]; omega)
            unfold fullD
            rw [← hK]
            exact h
          have HK6 := Lib.hid hK6
          have HB6 := Lib.hid (show Below w.heap.size w (w5.setCell ⟨g, K, none⟩ (.int .u8 32)) from HB5.out.setCell hgw _)
          obtain ⟨D, hD⟩ : ∃ D, D = strB (fullD N) := ⟨_, rfl⟩
          have hDs : D.size = 4096 := by rw [hD, strB_size, fullD_len]
          have hcv := HK6.out.conv 4096 (fullD_len N)
          rw [← hD] at hcv
          obtain ⟨l7, hs7⟩ := fullD_scan hN (s := D) (by rw [hD, strB_data])
          have HS7 := Lib.hid (fun W hW => scan_toks D l7 W (by omega) (HG.out.next (w' := W) hW) (HTY.out.next hW) hs7)
          have HD := Lib.hid hD
          clear hc hK hK6 hs7 hD
          go_wp2_with fail
          refine (HS7.out _ HB6.out).mono ?_
          rintro e w7 ⟨b7, A7, cap7, rfl, o7⟩
          have HB7 := Lib.hid (bnext HB6.out b7)
          have HK7 := Lib.hid (HK6.out.next b7)
          have HE7 := Lib.hid ((IsErr.set (t := ⟨g, K, none⟩) (x := .int .u8 32) HK5.out (by decide) HE5.out).next b7)
          clear b7 o7 hcv HS7 cz fz
          have hcv := HK7.out.conv 4096 (fullD_len N)
          rw [← HD.out] at hcv
          have hEs : (D ++ { data := #[32] }).size = 4097 := by rw [ByteArray.size_append, hDs]; rfl
          have hs9 : scanM (D ++ { data := #[32] }) = .err 3 4097 := by unfold scanM; rw [if_pos (by omega), hEs]
          have HS9 := Lib.hid (fun W hW => scan_err (D ++ { data := #[32] }) 3 4097 W (by omega) (HG.out.next (w' := W) hW) (HTY.out.next hW) hs9)
          clear hs9 hEs
          go_wp2_with fail
          refine (HS9.out _ HB7.out).mono ?_
          rintro e w9 ⟨b9, v9, rfl, he9⟩
          have HB9 := Lib.hid (bnext HB7.out b9)
          have HE9 := Lib.hid he9
          have HF9 := Lib.hid (HE7.out.next b9)
          clear b9 he9 hcv HS9
          go_wp2_with fail
          refine (At_one lexN 4095 5 v5 w9 (HG.out.next HB9.out) HF9.out).mono ?_
          rintro e w11 ⟨rfl, b11⟩
          have HB11 := Lib.hid (bnext HB9.out b11)
          have HI := Lib.hid (Is_any [(lexN, (4097 : Int))] 3 3 v9 w11 (HE9.out.next b11))
          clear b11
          go_wp2_with (go_at_call 13; refine HI.out.mono ?_; rintro e w' ⟨rfl, rfl⟩)
          go_ret
          exact ⟨rfl, HB11.out⟩
end Go.Proofs.YtbiobefcagboeaaDoor
