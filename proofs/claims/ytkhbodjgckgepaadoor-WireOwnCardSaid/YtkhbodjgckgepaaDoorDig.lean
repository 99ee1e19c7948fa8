/-
  The digest of bytes: the walk of wire.Digest and of the document's.
-/
import Derived.Test.YtkhbodjgckgepaaDoorWireA
import Derived.Test.YtkhbodjgckgepaaDoorTakeL
import Derived.BigQuiet
import Derived.Deep.QuietTactic
import Derived.Deep.OwnRows
namespace Go.Proofs.YtkhbodjgckgepaaDoor
set_option linter.unusedVariables false
set_option linter.unusedSimpArgs false
open Go.RowKit
/-- A byte as a word. -/
def wide8 (c : UInt8) : UInt64 := UInt64.ofNat c.toNat
def mulP (x : UInt64) : UInt64 := x * 1099511628211
/-- Where digest k begins. -/
def dgK (k : Nat) : UInt64 := UInt64.ofNat (14695981039346656037 + k)
theorem wide8_nat (c : UInt8) : (wide8 c).toNat = c.toNat := by
  have := c.toNat_lt
  unfold wide8
  rw [UInt64.toNat_ofNat_of_lt' (by simp only [UInt64.size]; omega)]
theorem u64_wide (c : UInt8) : IntKind.u64.wrap (c.toNat : Int) = ((wide8 c).toNat : Int) := by
  rw [wide8_nat, wrapN]
  have := c.toNat_lt
  omega
theorem u64_xor8 (x : UInt64) (c : UInt8) : bits .xor .u64 (x.toNat : Int) (c.toNat : Int) = ((xorW x (wide8 c)).toNat : Int) := by
  rw [← wide8_nat, u64_xor]
theorem u64_mulP (x : UInt64) : IntKind.u64.wrap ((x.toNat : Int) * 1099511628211) = ((mulP x).toNat : Int) := by
  have h := u64_mul x 1099511628211
  unfold mulW at h
  exact h
theorem u64_dgK (k : Nat) : IntKind.u64.wrap (14695981039346656037 + (k : Int)) = ((dgK k).toNat : Int) := by
  unfold dgK
  rw [wrapN, UInt64.toNat_ofNat']
  omega
theorem u64_dgK' (k : Nat) : IntKind.u64.wrap (14695981039346656037 + IntKind.u64.wrap (k : Int)) = ((dgK k).toNat : Int) := by
  rw [← u64_dgK, wrapN, wrapN, wrapN]
  omega
theorem dgK0 : U (dgK 0) = .int .u64 14695981039346656037 := by kernel_rfl
theorem dgK1 : U (dgK 1) = .int .u64 14695981039346656038 := by kernel_rfl
/-- One byte more. -/
def digS (d : UInt64) (c : UInt8) : UInt64 := mulP (xorW d (wide8 c))
def dig (k : Nat) (l : List UInt8) : UInt64 := l.foldl digS (dgK k)
theorem dig_nil (k : Nat) : dig k [] = dgK k := rfl
theorem dig_take (k : Nat) (l : List UInt8) {i : Nat} (h : i < l.length) : dig k (l.take (i + 1)) = digS (dig k (l.take i)) (nthB l i) := by
  unfold dig
  rw [take_succB l h, List.foldl_append]
  rfl
/-- The two digests, q of them one byte on. -/
def dgSt (a b : UInt64) (c : UInt8) : Nat → List UInt64
  | 0 => [a, b]
  | 1 => [digS a c, b]
  | _ + 2 => [digS a c, digS b c]
theorem dgSt_length (a b : UInt64) (c : UInt8) (q : Nat) : (dgSt a b c q).length = 2 := by
  unfold dgSt; split <;> rfl
theorem dgSt_set (a b : UInt64) (c : UInt8) {q : Nat} (h : q < 2) : (dgSt a b c q).set q (mulP (xorW (nthW (dgSt a b c q) q) (wide8 c))) = dgSt a b c (q + 1) := by
  rcases (by omega : q = 0 ∨ q = 1) with rfl | rfl
  · rw [nthW_eq]; rfl
  · rw [nthW_eq]; rfl
attribute [irreducible] wide8 mulP dgK
attribute [local go_sem ↓] u64_wide u64_xor u64_xor8 u64_mulP u64_dgK u64_dgK'
theorem dgSt_zero (k j : Nat) (c : UInt8) (l : List UInt8) : dgSt (dig k l) (dig j l) c 0 = [dig k l, dig j l] := rfl
theorem dgSt_two (l : List UInt8) {i : Nat} (h : i < l.length) : dgSt (dig 0 (l.take i)) (dig 1 (l.take i)) (nthB l i) 2 = [dig 0 (l.take (i + 1)), dig 1 (l.take (i + 1))] := by
  rw [dig_take 0 l h, dig_take 1 l h]; rfl
theorem dig_start (l : List UInt8) : ([dig 0 (l.take 0), dig 1 (l.take 0)].map U).toArray = #[.int .u64 14695981039346656037, .int .u64 14695981039346656038] := by
  rw [List.take_zero, dig_nil, dig_nil, ← dgK0, ← dgK1]
  rfl
attribute [irreducible] dgSt dig
set_option maxRecDepth 100000 in
set_option maxHeartbeats 1000000 in
theorem digest_any (A : Option Addr) (c : Nat) (l : List UInt8) (w : World) (hl : l.length ≤ maxLen) (hA : Rd w w.heap.size A (l.map V8)) :
    Calls Tryd.prog 11 #[.slice A l.length c] w fun e w' => e = .returned (.agg #[U (dig 0 l), U (dig 1 l)]) ∧ Below w.heap.size w w' := by
  have h63 : l.length ≤ 9223372036854775807 := by simp only [maxLen] at hl; omega
  go_enter Tryd.func11, Tryd.ntmps11
  go_wp2
  go_loopw [10] (fun i wr => ∃ p : Nat, p ≤ l.length ∧ i = .int .i64 p ∧ BlkW wr 25 (w.heap.size + 1) [dig 0 (l.take p), dig 1 (l.take p)] ∧ Below (w.heap.size + 1) (w.alloc (.cells #[.int .u64 0, .int .u64 0] 25)) wr) (fun i _ => l.length - (intOf i).toNat)
  case atStart =>
    refine ⟨0, by omega, rfl, ?_, ?_⟩
    · have h := heap_alloc_new (w.alloc (.cells #[.int .u64 0, .int .u64 0] 25)) (.cells #[.int .u64 14695981039346656037, .int .u64 14695981039346656038] 25)
      rw [World.size_alloc] at h
      unfold BlkW
      rw [dig_start l]
      exact h
    · exact (Below.refl _ _).alloc (by simp) _
  case round =>
    obtain ⟨p, hp, rfl, hblk, hbel⟩ := hrel
    by_cases hlt : p < l.length
    · obtain ⟨b, o, hAe, hb1, hc1⟩ := hA.byte hlt
      have g1 : wr.cell? ⟨b, o + p, none⟩ = some (V8 (nthB l p)) := (hbel.cell (p := ⟨b, _, none⟩) (Nat.lt_succ_of_lt hb1)).trans ((World.cell?_alloc_lt w _ _ hb1).trans hc1)
      obtain ⟨wo, rfl⟩ : ∃ wo : World, wo = wr := ⟨_, rfl⟩
      have HT := Lib.hid (dgSt_two l hlt)
      rw [← dgSt_zero 0 1 (nthB l p)] at hblk
      have HA := Lib.hid hA
      have HC := Lib.hid hc1
      have HB := Lib.hid hblk
      have HW := Lib.hid hbel
      clear hA hc1 hblk hbel
      subst hAe
      go_wp2
      go_loopw [14] (fun i wr => ∃ q : Nat, q ≤ 2 ∧ i = .int .i64 q ∧ BlkW wr 25 (w.heap.size + 1) (dgSt (dig 0 (l.take p)) (dig 1 (l.take p)) (nthB l p) q) ∧ Below (w.heap.size + 1) (w.alloc (.cells #[.int .u64 0, .int .u64 0] 25)) wr) (fun i _ => 2 - (intOf i).toNat)
      case atStart => exact ⟨0, by omega, rfl, HB.out, HW.out⟩
      case round =>
        obtain ⟨q, hq, rfl, hblk, hbel⟩ := hrel
        by_cases hlq : q < 2
        · have g3 := hblk.cell (k := q) (by rw [dgSt_length]; exact hlq)
          have g4 := hblk.free q
          have HS := Lib.hid (dgSt_set (dig 0 (l.take p)) (dig 1 (l.take p)) (nthB l p) hlq)
          have HB := Lib.hid hblk
          have HW := Lib.hid hbel
          clear hblk hbel
          go_wp2
          refine ⟨⟨q + 1, by omega, by go_num, ?_, HW.out.setCell (p := ⟨w.heap.size + 1, q, none⟩) (Nat.le_refl _) _⟩, by simp [intOf]; omega⟩
          have h := HB.out.set q (mulP (xorW (nthW (dgSt (dig 0 (l.take p)) (dig 1 (l.take p)) (nthB l p) q) q) (wide8 (nthB l p))))
          rw [HS.out] at h
          exact h
        · obtain rfl : q = 2 := by omega
          rw [HT.out] at hblk
          have HB := Lib.hid hblk
          have HW := Lib.hid hbel
          clear hblk hbel
          go_wp2
          exact ⟨⟨p + 1, by omega, by go_num, HB.out, HW.out⟩, by simp [intOf]; omega⟩
    · obtain rfl : p = l.length := by omega
      rw [List.take_length] at hblk
      have g1 := hblk.cell (k := 0) (by simp)
      have g2 := hblk.cell (k := 1) (by simp)
      rw [nthW_eq] at g1 g2
      have g1' : wr.cell? ⟨w.heap.size + 1, 0, none⟩ = some (U (dig 0 l)) := g1
      have g2' : wr.cell? ⟨w.heap.size + 1, 1, none⟩ = some (U (dig 1 l)) := g2
      have hz : BlkW wr 25 w.heap.size [0, 0] := (hbel.block _ (by omega)).trans (heap_alloc_new w _)
      have g3 := hz.free 0
      have g4 := hz.free 1
      have g5 := hz.cell (k := 0) (by simp)
      have g6 := hz.cell (k := 1) (by simp)
      have HB := Lib.hid hblk
      have HW := Lib.hid hbel
      have HZ := Lib.hid hz
      clear hblk hbel g1 g2 hz
      go_wp2
      have hres : Tryd.f11.results = #[.cell 2 25] := by kernel_rfl
      try simp only [Exit.inBlock, Exit.then]
      have hz2 := (HZ.out.set 0 (dig 0 l)).set 1 (dig 1 l)
      have c0 := hz2.cell (k := 0) (by simp)
      have c1 := hz2.cell (k := 1) (by simp)
      rw [nthW_eq] at c0 c1
      refine bodyPost_ret (v := .agg #[U (dig 0 l), U (dig 1 l)]) ?_ rfl ⟨rfl, ?_⟩
      · clear g3 g4 g5 g6 g1' g2'
        have c0' : (World.setCell (World.setCell wr ⟨w.heap.size, 0, none⟩ (U (dig 0 l))) ⟨w.heap.size, 1, none⟩ (U (dig 1 l))).cell? ⟨w.heap.size, 0, none⟩ = some (U (dig 0 l)) := c0
        have c1' : (World.setCell (World.setCell wr ⟨w.heap.size, 0, none⟩ (U (dig 0 l))) ⟨w.heap.size, 1, none⟩ (U (dig 1 l))).cell? ⟨w.heap.size, 1, none⟩ = some (U (dig 1 l)) := c1
        simp only [results, hres]
        go_simp
      · have hb : Below w.heap.size w wr := ((Below.refl _ _).alloc (Nat.le_refl _) _).trans (HW.out.mono (by simp))
        exact (hb.setCell (p := ⟨w.heap.size, 0, none⟩) (Nat.le_refl _) _).setCell (p := ⟨w.heap.size, 1, none⟩) (Nat.le_refl _) _
end Go.Proofs.YtkhbodjgckgepaaDoor
