/-
  The walk of the document's digest.
-/
import Derived.Test.YtkhbodjgckgepaaDoorDig
namespace Go.Proofs.YtkhbodjgckgepaaDoor
set_option linter.unusedVariables false
set_option linter.unusedSimpArgs false
open Go.RowKit
def rdSt (l : List UInt8) : Nat → List UInt64
  | 0 => [0, 0]
  | 1 => [dig 0 l, 0]
  | _ + 2 => [dig 0 l, dig 1 l]
theorem rdSt_length (l : List UInt8) (k : Nat) : (rdSt l k).length = 2 := by
  unfold rdSt; split <;> rfl
theorem rdSt_set (l : List UInt8) {q : Nat} (h : q < 2) : (rdSt l q).set q (dig q l) = rdSt l (q + 1) := by
  rcases (by omega : q = 0 ∨ q = 1) with rfl | rfl <;> rfl
theorem rdSt_zero (l : List UInt8) : rdSt l 0 = [0, 0] := rfl
theorem rdSt_two (l : List UInt8) : rdSt l 2 = [dig 0 l, dig 1 l] := rfl
attribute [irreducible] rdSt
attribute [local go_sem ↓] u64_wide u64_xor u64_xor8 u64_mulP u64_dgK u64_dgK'
theorem dig_zero (k : Nat) (l : List UInt8) : dgK k = dig k (l.take 0) := by rw [List.take_zero, dig_nil]
set_option maxRecDepth 100000 in
set_option maxHeartbeats 1000000 in
theorem rdigest_any (A : Option Addr) (c : Nat) (l : List UInt8) (w : World) (hl : l.length ≤ maxLen) (hA : Rd w w.heap.size A (l.map V8)) :
    Calls Tryd.prog 12 #[.slice A l.length c] w fun e w' => e = .returned (.agg #[U (dig 0 l), U (dig 1 l)]) ∧ Below w.heap.size w w' := by
  have h63 : l.length ≤ 9223372036854775807 := by simp only [maxLen] at hl; omega
  go_enter Tryd.func12, Tryd.ntmps12
  go_wp2
  go_loopw [4] (fun i wr => ∃ p : Nat, p ≤ 2 ∧ i = .int .i64 p ∧ BlkW wr 25 (w.heap.size + 1) (rdSt l p) ∧ Below (w.heap.size + 1) (w.alloc (.cells #[.int .u64 0, .int .u64 0] 25)) wr) (fun i _ => 2 - (intOf i).toNat)
  case atStart =>
    refine ⟨0, by omega, rfl, ?_, ?_⟩
    · have h := heap_alloc_new (w.alloc (.cells #[.int .u64 0, .int .u64 0] 25)) (.cells #[.int .u64 0, .int .u64 0] 25)
      rw [World.size_alloc] at h
      rw [rdSt_zero]
      exact h
    · exact (Below.refl _ _).alloc (by simp) _
  case round =>
    obtain ⟨p, hp, rfl, hblk, hbel⟩ := hrel
    obtain ⟨wo, rfl⟩ : ∃ wo : World, wo = wr := ⟨_, rfl⟩
    by_cases hlt : p < 2
    · have g3 := hblk.free p
      have HS := Lib.hid (rdSt_set l hlt)
      have g4 := hblk.cell (k := p) (by rw [rdSt_length]; exact hlt)
      have HB := Lib.hid hblk
      have HW := Lib.hid hbel
      have HA := Lib.hid hA
      clear hA hblk hbel
      go_wp2
      go_loop [5, 6] (fun d i => ∃ q : Nat, q ≤ l.length ∧ i = .int .i64 q ∧ d = U (dig p (l.take q))) (fun _ i => l.length - (intOf i).toNat)
      case atStart => exact ⟨0, by omega, rfl, by rw [← dig_zero]⟩
      case round =>
        obtain ⟨q, hq, rfl, rfl⟩ := hrel
        by_cases hlq : q < l.length
        · obtain ⟨b, o, hAe, hb1, hc1⟩ := HA.out.byte hlq
          have g1 : wo.cell? ⟨b, o + q, none⟩ = some (V8 (nthB l q)) := (HW.out.cell (p := ⟨b, _, none⟩) (Nat.lt_succ_of_lt hb1)).trans ((World.cell?_alloc_lt w _ _ hb1).trans hc1)
          have HD := Lib.hid (dig_take p l hlq)
          clear hc1
          subst hAe
          go_wp2
          exact ⟨⟨q + 1, by omega, by go_num, by rw [HD.out]; rfl⟩, by simp [intOf]; omega⟩
        · obtain rfl : q = l.length := by omega
          have HD := Lib.hid (show dig p (l.take l.length) = dig p l by rw [List.take_length])
          go_wp2
          refine ⟨⟨p + 1, by omega, by go_num, ?_, HW.out.setCell (p := ⟨w.heap.size + 1, p, none⟩) (Nat.le_refl _) _⟩, by simp [intOf]; omega⟩
          have h := HB.out.set p (dig p l)
          rw [HS.out] at h
          exact h
    · obtain rfl : p = 2 := by omega
      rw [rdSt_two] at hblk
      have g1 := hblk.cell (k := 0) (by simp)
      have g2 := hblk.cell (k := 1) (by simp)
      rw [nthW_eq] at g1 g2
      have g1' : wo.cell? ⟨w.heap.size + 1, 0, none⟩ = some (U (dig 0 l)) := g1
      have g2' : wo.cell? ⟨w.heap.size + 1, 1, none⟩ = some (U (dig 1 l)) := g2
      have hz : BlkW wo 25 w.heap.size [0, 0] := (hbel.block _ (by omega)).trans (heap_alloc_new w _)
      have g3 := hz.free 0
      have g4 := hz.free 1
      have g5 := hz.cell (k := 0) (by simp)
      have g6 := hz.cell (k := 1) (by simp)
      have HB := Lib.hid hblk
      have HW := Lib.hid hbel
      have HZ := Lib.hid hz
      clear hblk hbel g1 g2 hz
      go_wp2
      have hres : Tryd.f12.results = #[.cell 2 25] := by kernel_rfl
      try simp only [Exit.inBlock, Exit.then]
      have hz2 := (HZ.out.set 0 (dig 0 l)).set 1 (dig 1 l)
      have c0 := hz2.cell (k := 0) (by simp)
      have c1 := hz2.cell (k := 1) (by simp)
      rw [nthW_eq] at c0 c1
      refine bodyPost_ret (v := .agg #[U (dig 0 l), U (dig 1 l)]) ?_ rfl ⟨rfl, ?_⟩
      · clear g3 g4 g5 g6 g1' g2'
        have c0' : (World.setCell (World.setCell wo ⟨w.heap.size, 0, none⟩ (U (dig 0 l))) ⟨w.heap.size, 1, none⟩ (U (dig 1 l))).cell? ⟨w.heap.size, 0, none⟩ = some (U (dig 0 l)) := c0
        have c1' : (World.setCell (World.setCell wo ⟨w.heap.size, 0, none⟩ (U (dig 0 l))) ⟨w.heap.size, 1, none⟩ (U (dig 1 l))).cell? ⟨w.heap.size, 1, none⟩ = some (U (dig 1 l)) := c1
        simp only [results, hres]
        go_simp
      · have hb : Below w.heap.size w wo := ((Below.refl _ _).alloc (Nat.le_refl _) _).trans (HW.out.mono (by simp))
        exact (hb.setCell (p := ⟨w.heap.size, 0, none⟩) (Nat.le_refl _) _).setCell (p := ⟨w.heap.size, 1, none⟩) (Nat.le_refl _) _
end Go.Proofs.YtkhbodjgckgepaaDoor
