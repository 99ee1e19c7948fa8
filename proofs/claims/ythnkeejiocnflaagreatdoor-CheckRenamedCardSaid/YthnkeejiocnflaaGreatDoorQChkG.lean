/-
  Walks of the reference's Shape.
-/
import Derived.Test.YthnkeejiocnflaaGreatDoorQChkD
import Derived.Test.YthnkeejiocnflaaGreatDoorQChkF
import Derived.BigQuiet
import Derived.Deep.RegionWith
import Derived.Deep.RegionHeld3
namespace Go.Proofs.YthnkeejiocnflaaGreatDoor
set_option linter.unusedVariables false
set_option linter.unusedSimpArgs false
open Go.RowKit
theorem appV_step {w : World} {ops : Array Oper} {o : Oper} {a : Act} {K : Act → World → Prop} {Q : Exit → Act → World → Prop} {E : Prop} (hgd : o.guard = none) (s x : Operand)
    (ho : o.op = .call { callee := .builtin .append, args := #[s, x], argTypes := #[22, 22] }) (base : Nat)
    (A : Option Addr) (cap : Nat) (xs : List Int) (n : Nat) (hn : xs.length = n) (hs : a.eval s = .slice A n cap) (hown : Own w base 3 A cap (xs.map VI))
    (A2 : Option Addr) (m c B : Nat) (news : List Int) (hm : news.length = m) (hx : a.eval x = .slice A2 m c) (hr : Rd w B A2 (news.map VI)) (hnil : A2 = none → m = 0)
    (hbytes : n + m ≤ 26388279066624) (hbase : base ≤ w.heap.size)
    (h : ∀ A' cap' w', Own w' base 3 A' cap' ((xs ++ news).map VI) → Below base w w' → K (a.put o.dst (.slice A' (n + m) cap')) w') :
    if Region.wanted o (yielded ops a.tmps) = true then Oper.wp Tryz.prog o a w K Q else E := by
  obtain ⟨i0, hi0, hz0, hz1, hz2⟩ := info_parts intV_info
  refine step_app hgd s x 22 ho base 3 i0 _ 8 Tryz.underlying22 hi0 hz0 hz1 hz2 rfl A cap (xs.map VI) n (by rw [List.length_map]; exact hn) hs hown A2 m c B (news.map VI) (by rw [List.length_map]; exact hm) hx hr hnil (intv_ones _) (by simp only [maxLen]; omega) (by omega) hbase ?_
  intro A' cap' w' h1 h2 h3
  rw [← List.map_append] at h1
  exact h A' cap' w' h1 (grown_below (Below.refl _ _) h2 hbase (fun k hk => (hown.lt k hk).1))
set_option maxRecDepth 100000 in
set_option maxHeartbeats 4000000 in
theorem rshape_1 (X : Nat → Prop) (nm : ByteArray) (num : Nat) (av : Value) (pos : Int) (XA : Option Addr) (xc : Nat) (w : World) (hX : ∀ k, X k → k < w.heap.size) (hL : ShL X w XA ([] : List (List Int))) :
    Calls Tryz.prog 52 #[.agg #[.int .i64 1, .string nm, .int .u64 (num : Int), av, .int .i64 pos], .slice XA 0 xc] w fun e w' => ∃ v, e = .returned (.tuple #[v, .bool (shapeOf 1 num []).2]) ∧ ShV X w' v (shapeOf 1 num []).1 ∧ Below w.heap.size w w' := by
  obtain ⟨w2, hw2⟩ : ∃ w2, w2 = w.alloc (.cells #[.int .i64 1, .string nm, .int .u64 (num : Int), av, .int .i64 pos] 41) := ⟨_, rfl⟩
  have hb2 : Below w.heap.size w w2 := by rw [hw2]; exact (Below.refl _ _).alloc (Nat.le_refl _) _
  have hE : w2.heap[w.heap.size]? = some (.cells #[.int .i64 1, .string nm, .int .u64 (num : Int), av, .int .i64 pos] 41 (0, 0)) := by rw [hw2]; exact heap_alloc_new w _
  have HW2 := Lib.hid hw2
  have HB2 := Lib.hid hb2
  have HXX := Lib.hid (fun k hk => Nat.lt_of_lt_of_le (hX k hk) hb2.size)
  have e0 := cell_of_row _ _ 0 _ _ _ hE
  have e2 := cell_of_row _ _ 2 _ _ _ hE
  clear hL hX
  have HQ := Lib.hid (show shapeOf 1 num [] = ([], true) from rfl)
  clear hw2 hb2 hE 
  go_enter Tryz.func52, Tryz.ntmps52
  go_wp2_with fail
  rw [← HW2.out]
  go_wp2
  go_ret2
  exact ⟨_, by rw [HQ.out]; rfl, by rw [HQ.out]; exact ShV.nil _ _, HB2.out⟩
set_option maxRecDepth 100000 in
set_option maxHeartbeats 4000000 in
theorem rshape_11 (X : Nat → Prop) (nm : ByteArray) (num : Nat) (av : Value) (pos : Int) (x0 : List Int) (XA : Option Addr) (xc : Nat) (w : World) (hX : ∀ k, X k → k < w.heap.size) (hL : ShL X w XA [x0]) :
    Calls Tryz.prog 52 #[.agg #[.int .i64 11, .string nm, .int .u64 (num : Int), av, .int .i64 pos], .slice XA 1 xc] w fun e w' => ∃ v, e = .returned (.tuple #[v, .bool (shapeOf 11 num [x0]).2]) ∧ ShV X w' v (shapeOf 11 num [x0]).1 ∧ Below w.heap.size w w' := by
  obtain ⟨w2, hw2⟩ : ∃ w2, w2 = w.alloc (.cells #[.int .i64 11, .string nm, .int .u64 (num : Int), av, .int .i64 pos] 41) := ⟨_, rfl⟩
  have hb2 : Below w.heap.size w w2 := by rw [hw2]; exact (Below.refl _ _).alloc (Nat.le_refl _) _
  have hE : w2.heap[w.heap.size]? = some (.cells #[.int .i64 11, .string nm, .int .u64 (num : Int), av, .int .i64 pos] 41 (0, 0)) := by rw [hw2]; exact heap_alloc_new w _
  have HW2 := Lib.hid hw2
  have HB2 := Lib.hid hb2
  have HXX := Lib.hid (fun k hk => Nat.lt_of_lt_of_le (hX k hk) hb2.size)
  have e0 := cell_of_row _ _ 0 _ _ _ hE
  have e2 := cell_of_row _ _ 2 _ _ _ hE
  obtain ⟨b, o, rfl, hb, hc⟩ := (hL.keep hb2).cells (by simp)
  obtain ⟨v0, c0, s0⟩ := hc 0 x0 rfl
  have HS0 := Lib.hid s0
  obtain ⟨A0, k0, rfl, p0, pp0, l0, r0⟩ := s0
  have c0 : w2.cell? ⟨b, o, none⟩ = _ := c0
  obtain ⟨n0, hn0⟩ : ∃ n, n = x0.length := ⟨_, rfl⟩
  have HR0 := Lib.hid r0.rd
  rw [← hn0] at c0 p0 l0 HS0
  have HN0 := Lib.hid hn0
  have cu0 := c0
  rw [hw2] at cu0
  have HC := Lib.hid hc
  clear hc hL hX r0
  have HQ := Lib.hid (show shapeOf 11 num [x0] = ([], true) from rfl)
  clear hw2 hb2 hE hn0
  go_enter Tryz.func52, Tryz.ntmps52
  go_wp2_with fail
  rw [← HW2.out]
  go_wp2
  go_ret2
  exact ⟨_, by rw [HQ.out]; rfl, by rw [HQ.out]; exact ShV.nil _ _, HB2.out⟩
set_option maxRecDepth 100000 in
set_option maxHeartbeats 4000000 in
theorem rshape_3 (X : Nat → Prop) (nm : ByteArray) (num : Nat) (av : Value) (pos : Int) (x0 : List Int) (XA : Option Addr) (xc : Nat) (w : World) (hX : ∀ k, X k → k < w.heap.size) (hL : ShL X w XA [x0]) :
    Calls Tryz.prog 52 #[.agg #[.int .i64 3, .string nm, .int .u64 (num : Int), av, .int .i64 pos], .slice XA 1 xc] w fun e w' => ∃ v, e = .returned (.tuple #[v, .bool (shapeOf 3 num [x0]).2]) ∧ ShV X w' v (shapeOf 3 num [x0]).1 ∧ Below w.heap.size w w' := by
  obtain ⟨w2, hw2⟩ : ∃ w2, w2 = w.alloc (.cells #[.int .i64 3, .string nm, .int .u64 (num : Int), av, .int .i64 pos] 41) := ⟨_, rfl⟩
  have hb2 : Below w.heap.size w w2 := by rw [hw2]; exact (Below.refl _ _).alloc (Nat.le_refl _) _
  have hE : w2.heap[w.heap.size]? = some (.cells #[.int .i64 3, .string nm, .int .u64 (num : Int), av, .int .i64 pos] 41 (0, 0)) := by rw [hw2]; exact heap_alloc_new w _
  have HW2 := Lib.hid hw2
  have HB2 := Lib.hid hb2
  have HXX := Lib.hid (fun k hk => Nat.lt_of_lt_of_le (hX k hk) hb2.size)
  have e0 := cell_of_row _ _ 0 _ _ _ hE
  have e2 := cell_of_row _ _ 2 _ _ _ hE
  obtain ⟨b, o, rfl, hb, hc⟩ := (hL.keep hb2).cells (by simp)
  obtain ⟨v0, c0, s0⟩ := hc 0 x0 rfl
  have HS0 := Lib.hid s0
  obtain ⟨A0, k0, rfl, p0, pp0, l0, r0⟩ := s0
  have c0 : w2.cell? ⟨b, o, none⟩ = _ := c0
  obtain ⟨n0, hn0⟩ : ∃ n, n = x0.length := ⟨_, rfl⟩
  have HR0 := Lib.hid r0.rd
  rw [← hn0] at c0 p0 l0 HS0
  have HN0 := Lib.hid hn0
  have cu0 := c0
  rw [hw2] at cu0
  have HC := Lib.hid hc
  clear hc hL hX r0
  have HQ := Lib.hid (show shapeOf 3 num [x0] = (x0, true) from rfl)
  clear hw2 hb2 hE hn0
  go_enter Tryz.func52, Tryz.ntmps52
  go_wp2_with fail
  rw [← HW2.out]
  go_wp2
  go_ret2
  exact ⟨_, by rw [HQ.out]; rfl, by rw [HQ.out]; exact HS0.out, HB2.out⟩
set_option maxRecDepth 100000 in
set_option maxHeartbeats 4000000 in
theorem rshape_10 (X : Nat → Prop) (nm : ByteArray) (num : Nat) (av : Value) (pos : Int) (x0 : List Int) (XA : Option Addr) (xc : Nat) (w : World) (hX : ∀ k, X k → k < w.heap.size) (hL : ShL X w XA [x0]) :
    Calls Tryz.prog 52 #[.agg #[.int .i64 10, .string nm, .int .u64 (num : Int), av, .int .i64 pos], .slice XA 1 xc] w fun e w' => ∃ v, e = .returned (.tuple #[v, .bool (shapeOf 10 num [x0]).2]) ∧ ShV X w' v (shapeOf 10 num [x0]).1 ∧ Below w.heap.size w w' := by
  obtain ⟨w2, hw2⟩ : ∃ w2, w2 = w.alloc (.cells #[.int .i64 10, .string nm, .int .u64 (num : Int), av, .int .i64 pos] 41) := ⟨_, rfl⟩
  have hb2 : Below w.heap.size w w2 := by rw [hw2]; exact (Below.refl _ _).alloc (Nat.le_refl _) _
  have hE : w2.heap[w.heap.size]? = some (.cells #[.int .i64 10, .string nm, .int .u64 (num : Int), av, .int .i64 pos] 41 (0, 0)) := by rw [hw2]; exact heap_alloc_new w _
  have HW2 := Lib.hid hw2
  have HB2 := Lib.hid hb2
  have HXX := Lib.hid (fun k hk => Nat.lt_of_lt_of_le (hX k hk) hb2.size)
  have e0 := cell_of_row _ _ 0 _ _ _ hE
  have e2 := cell_of_row _ _ 2 _ _ _ hE
  obtain ⟨b, o, rfl, hb, hc⟩ := (hL.keep hb2).cells (by simp)
  obtain ⟨v0, c0, s0⟩ := hc 0 x0 rfl
  have HS0 := Lib.hid s0
  obtain ⟨A0, k0, rfl, p0, pp0, l0, r0⟩ := s0
  have c0 : w2.cell? ⟨b, o, none⟩ = _ := c0
  obtain ⟨n0, hn0⟩ : ∃ n, n = x0.length := ⟨_, rfl⟩
  have HR0 := Lib.hid r0.rd
  rw [← hn0] at c0 p0 l0 HS0
  have HN0 := Lib.hid hn0
  have cu0 := c0
  rw [hw2] at cu0
  have HC := Lib.hid hc
  clear hc hL hX r0
  have HQ := Lib.hid (show shapeOf 10 num [x0] = (x0, true) from rfl)
  clear hw2 hb2 hE hn0
  go_enter Tryz.func52, Tryz.ntmps52
  go_wp2_with fail
  rw [← HW2.out]
  go_wp2
  go_ret2
  exact ⟨_, by rw [HQ.out]; rfl, by rw [HQ.out]; exact HS0.out, HB2.out⟩
set_option maxRecDepth 100000 in
set_option maxHeartbeats 4000000 in
theorem rshape_9 (X : Nat → Prop) (nm : ByteArray) (num : Nat) (av : Value) (pos : Int) (x0 : List Int) (XA : Option Addr) (xc : Nat) (w : World) (hX : ∀ k, X k → k < w.heap.size) (hL : ShL X w XA [x0]) :
    Calls Tryz.prog 52 #[.agg #[.int .i64 9, .string nm, .int .u64 (num : Int), av, .int .i64 pos], .slice XA 1 xc] w fun e w' => ∃ v, e = .returned (.tuple #[v, .bool (shapeOf 9 num [x0]).2]) ∧ ShV X w' v (shapeOf 9 num [x0]).1 ∧ Below w.heap.size w w' := by
  obtain ⟨w2, hw2⟩ : ∃ w2, w2 = w.alloc (.cells #[.int .i64 9, .string nm, .int .u64 (num : Int), av, .int .i64 pos] 41) := ⟨_, rfl⟩
  have hb2 : Below w.heap.size w w2 := by rw [hw2]; exact (Below.refl _ _).alloc (Nat.le_refl _) _
  have hE : w2.heap[w.heap.size]? = some (.cells #[.int .i64 9, .string nm, .int .u64 (num : Int), av, .int .i64 pos] 41 (0, 0)) := by rw [hw2]; exact heap_alloc_new w _
  have HW2 := Lib.hid hw2
  have HB2 := Lib.hid hb2
  have HXX := Lib.hid (fun k hk => Nat.lt_of_lt_of_le (hX k hk) hb2.size)
  have e0 := cell_of_row _ _ 0 _ _ _ hE
  have e2 := cell_of_row _ _ 2 _ _ _ hE
  obtain ⟨b, o, rfl, hb, hc⟩ := (hL.keep hb2).cells (by simp)
  obtain ⟨v0, c0, s0⟩ := hc 0 x0 rfl
  have HS0 := Lib.hid s0
  obtain ⟨A0, k0, rfl, p0, pp0, l0, r0⟩ := s0
  have c0 : w2.cell? ⟨b, o, none⟩ = _ := c0
  obtain ⟨n0, hn0⟩ : ∃ n, n = x0.length := ⟨_, rfl⟩
  have HR0 := Lib.hid r0.rd
  rw [← hn0] at c0 p0 l0 HS0
  have HN0 := Lib.hid hn0
  have cu0 := c0
  rw [hw2] at cu0
  have HC := Lib.hid hc
  clear hc hL hX r0
  have HQ := Lib.hid (show shapeOf 9 num [x0] = (x0, decide (num ≤ 63)) from rfl)
  have HD := Lib.hid (show decide (num ≤ 63) = decide ((num : Int) ≤ 63) from by simp; omega)
  clear hw2 hb2 hE hn0
  go_enter Tryz.func52, Tryz.ntmps52
  go_wp2_with fail
  rw [← HW2.out]
  go_wp2_with fail
  go_quiet (fail)
  go_wp2
  go_ret2
  exact ⟨_, by rw [HQ.out, HD.out]; rfl, by rw [HQ.out]; exact HS0.out.keep (keepX_drewN _ _ _), below_drewN HB2.out _⟩
set_option maxRecDepth 100000 in
set_option maxHeartbeats 4000000 in
theorem rshape_12 (X : Nat → Prop) (nm : ByteArray) (num : Nat) (av : Value) (pos : Int) (x0 : List Int) (XA : Option Addr) (xc : Nat) (w : World) (hX : ∀ k, X k → k < w.heap.size) (hL : ShL X w XA [x0]) :
    Calls Tryz.prog 52 #[.agg #[.int .i64 12, .string nm, .int .u64 (num : Int), av, .int .i64 pos], .slice XA 1 xc] w fun e w' => ∃ v, e = .returned (.tuple #[v, .bool (shapeOf 12 num [x0]).2]) ∧ ShV X w' v (shapeOf 12 num [x0]).1 ∧ Below w.heap.size w w' := by
  obtain ⟨w2, hw2⟩ : ∃ w2, w2 = w.alloc (.cells #[.int .i64 12, .string nm, .int .u64 (num : Int), av, .int .i64 pos] 41) := ⟨_, rfl⟩
  have hb2 : Below w.heap.size w w2 := by rw [hw2]; exact (Below.refl _ _).alloc (Nat.le_refl _) _
  have hE : w2.heap[w.heap.size]? = some (.cells #[.int .i64 12, .string nm, .int .u64 (num : Int), av, .int .i64 pos] 41 (0, 0)) := by rw [hw2]; exact heap_alloc_new w _
  have HW2 := Lib.hid hw2
  have HB2 := Lib.hid hb2
  have HXX := Lib.hid (fun k hk => Nat.lt_of_lt_of_le (hX k hk) hb2.size)
  have e0 := cell_of_row _ _ 0 _ _ _ hE
  have e2 := cell_of_row _ _ 2 _ _ _ hE
  obtain ⟨b, o, rfl, hb, hc⟩ := (hL.keep hb2).cells (by simp)
  obtain ⟨v0, c0, s0⟩ := hc 0 x0 rfl
  have HS0 := Lib.hid s0
  obtain ⟨A0, k0, rfl, p0, pp0, l0, r0⟩ := s0
  have c0 : w2.cell? ⟨b, o, none⟩ = _ := c0
  obtain ⟨n0, hn0⟩ : ∃ n, n = x0.length := ⟨_, rfl⟩
  have HR0 := Lib.hid r0.rd
  rw [← hn0] at c0 p0 l0 HS0
  have HN0 := Lib.hid hn0
  have cu0 := c0
  rw [hw2] at cu0
  have HC := Lib.hid hc
  clear hc hL hX r0
  have HQ := Lib.hid (show shapeOf 12 num [x0] = ([], x0.length == 1) from rfl)
  have HD := Lib.hid (show (x0.length == 1) = ((n0 : Int) == 1) from by
    rw [← hn0]
    by_cases h : n0 = 1
    · subst h; rfl
    · rw [beq_eq_false_iff_ne.2 h, beq_eq_false_iff_ne.2 (by omega)])
  clear hw2 hb2 hE hn0
  go_enter Tryz.func52, Tryz.ntmps52
  go_wp2_with fail
  rw [← HW2.out]
  go_wp2_with fail
  go_quiet (fail)
  go_wp2
  go_ret2
  exact ⟨_, by rw [HQ.out, HD.out]; rfl, by rw [HQ.out]; exact ShV.nil _ _, below_drewN HB2.out _⟩
set_option maxRecDepth 100000 in
set_option maxHeartbeats 4000000 in
theorem rshape_4 (X : Nat → Prop) (nm : ByteArray) (num : Nat) (av : Value) (pos : Int) (x0 x1 : List Int) (XA : Option Addr) (xc : Nat) (w : World) (hX : ∀ k, X k → k < w.heap.size) (hL : ShL X w XA [x0, x1]) :
    Calls Tryz.prog 52 #[.agg #[.int .i64 4, .string nm, .int .u64 (num : Int), av, .int .i64 pos], .slice XA 2 xc] w fun e w' => ∃ v, e = .returned (.tuple #[v, .bool (shapeOf 4 num [x0, x1]).2]) ∧ ShV X w' v (shapeOf 4 num [x0, x1]).1 ∧ Below w.heap.size w w' := by
  obtain ⟨w2, hw2⟩ : ∃ w2, w2 = w.alloc (.cells #[.int .i64 4, .string nm, .int .u64 (num : Int), av, .int .i64 pos] 41) := ⟨_, rfl⟩
  have hb2 : Below w.heap.size w w2 := by rw [hw2]; exact (Below.refl _ _).alloc (Nat.le_refl _) _
  have hE : w2.heap[w.heap.size]? = some (.cells #[.int .i64 4, .string nm, .int .u64 (num : Int), av, .int .i64 pos] 41 (0, 0)) := by rw [hw2]; exact heap_alloc_new w _
  have HW2 := Lib.hid hw2
  have HB2 := Lib.hid hb2
  have HXX := Lib.hid (fun k hk => Nat.lt_of_lt_of_le (hX k hk) hb2.size)
  have e0 := cell_of_row _ _ 0 _ _ _ hE
  have e2 := cell_of_row _ _ 2 _ _ _ hE
  obtain ⟨b, o, rfl, hb, hc⟩ := (hL.keep hb2).cells (by simp)
  obtain ⟨v0, c0, s0⟩ := hc 0 x0 rfl
  have HS0 := Lib.hid s0
  obtain ⟨A0, k0, rfl, p0, pp0, l0, r0⟩ := s0
  obtain ⟨v1, c1, s1⟩ := hc 1 x1 rfl
  have HS1 := Lib.hid s1
  obtain ⟨A1, k1, rfl, p1, pp1, l1, r1⟩ := s1
  have c0 : w2.cell? ⟨b, o, none⟩ = _ := c0
  obtain ⟨n0, hn0⟩ : ∃ n, n = x0.length := ⟨_, rfl⟩
  have HR0 := Lib.hid r0.rd
  obtain ⟨n1, hn1⟩ : ∃ n, n = x1.length := ⟨_, rfl⟩
  have HR1 := Lib.hid r1.rd
  rw [← hn0] at c0 p0 l0 HS0
  have HN0 := Lib.hid hn0
  rw [← hn1] at c1 p1 l1 HS1
  have HN1 := Lib.hid hn1
  have cu0 := c0
  rw [hw2] at cu0
  have cu1 := c1
  rw [hw2] at cu1
  have HC := Lib.hid hc
  clear hc hL hX r0 r1
  have HQ := Lib.hid (show shapeOf 4 num [x0, x1] = wideP x0 x1 from rfl)
  by_cases h0 : n0 = 0
  · have HZ := Lib.hid (show wideP x0 x1 = (x1, true) from by unfold wideP; rw [if_pos (by omega)])
    subst h0
    clear hw2 hb2 hE hn0 hn1
    go_enter Tryz.func52, Tryz.ntmps52
    go_wp2_with fail
    rw [← HW2.out]
    go_wp2
    go_ret2
    exact ⟨_, by rw [HQ.out, HZ.out]; rfl, by rw [HQ.out, HZ.out]; exact HS1.out, HB2.out⟩
  · have q0 : ((n0 : Int) == 0) = false := by rw [beq_eq_false_iff_ne]; omega
    by_cases h1 : n1 = 0
    · have HZ := Lib.hid (show wideP x0 x1 = (x0, true) from by unfold wideP; rw [if_neg (by omega), show (x1.length == 0) = true from by rw [← hn1, h1]; rfl]; rfl)
      subst h1
      clear h0
      clear hw2 hb2 hE hn0 hn1
      go_enter Tryz.func52, Tryz.ntmps52
      go_wp2_with fail
      rw [← HW2.out]
      go_wp2_with fail
      go_quiet (fail)
      go_wp2
      go_ret2
      exact ⟨_, by rw [HQ.out, HZ.out]; rfl, by rw [HQ.out, HZ.out]; exact HS0.out.keep (keepX_drewN _ _ _), below_drewN HB2.out _⟩
    · have q1 : ((n1 : Int) == 0) = false := by rw [beq_eq_false_iff_ne]; omega
      have HZ := Lib.hid (show wideP x0 x1 = (x0, x0 == x1) from by unfold wideP; rw [if_neg (by omega), show (x1.length == 0) = false from by rw [← hn1, beq_eq_false_iff_ne]; exact h1]; rfl)
      have HE := Lib.hid (fun q => ints2_any A0 A1 n0 n1 k0 k1 x0 x1 (w2.drewN q) hn0 hn1 (by omega) (by omega) (HR0.out.drewN q) (HR1.out.drewN q))
      clear h0 h1
      clear hw2 hb2 hE hn0 hn1
      go_enter Tryz.func52, Tryz.ntmps52
      go_wp2_with fail
      rw [← HW2.out]
      go_wp2_with fail
      go_quiet ((go_at_call 22; exact Calls.quiet_of (HE.out _)))
      go_wp2
      go_ret2
      exact ⟨_, by rw [HQ.out, HZ.out]; rfl, by rw [HQ.out, HZ.out]; exact HS0.out.keep (keepX_drewN _ _ _), below_drewN HB2.out _⟩
set_option maxRecDepth 100000 in
set_option maxHeartbeats 4000000 in
theorem rshape_5 (X : Nat → Prop) (nm : ByteArray) (num : Nat) (av : Value) (pos : Int) (x0 x1 : List Int) (XA : Option Addr) (xc : Nat) (w : World) (hX : ∀ k, X k → k < w.heap.size) (hL : ShL X w XA [x0, x1]) :
    Calls Tryz.prog 52 #[.agg #[.int .i64 5, .string nm, .int .u64 (num : Int), av, .int .i64 pos], .slice XA 2 xc] w fun e w' => ∃ v, e = .returned (.tuple #[v, .bool (shapeOf 5 num [x0, x1]).2]) ∧ ShV X w' v (shapeOf 5 num [x0, x1]).1 ∧ Below w.heap.size w w' := by
  obtain ⟨w2, hw2⟩ : ∃ w2, w2 = w.alloc (.cells #[.int .i64 5, .string nm, .int .u64 (num : Int), av, .int .i64 pos] 41) := ⟨_, rfl⟩
  have hb2 : Below w.heap.size w w2 := by rw [hw2]; exact (Below.refl _ _).alloc (Nat.le_refl _) _
  have hE : w2.heap[w.heap.size]? = some (.cells #[.int .i64 5, .string nm, .int .u64 (num : Int), av, .int .i64 pos] 41 (0, 0)) := by rw [hw2]; exact heap_alloc_new w _
  have HW2 := Lib.hid hw2
  have HB2 := Lib.hid hb2
  have HXX := Lib.hid (fun k hk => Nat.lt_of_lt_of_le (hX k hk) hb2.size)
  have e0 := cell_of_row _ _ 0 _ _ _ hE
  have e2 := cell_of_row _ _ 2 _ _ _ hE
  obtain ⟨b, o, rfl, hb, hc⟩ := (hL.keep hb2).cells (by simp)
  obtain ⟨v0, c0, s0⟩ := hc 0 x0 rfl
  have HS0 := Lib.hid s0
  obtain ⟨A0, k0, rfl, p0, pp0, l0, r0⟩ := s0
  obtain ⟨v1, c1, s1⟩ := hc 1 x1 rfl
  have HS1 := Lib.hid s1
  obtain ⟨A1, k1, rfl, p1, pp1, l1, r1⟩ := s1
  have c0 : w2.cell? ⟨b, o, none⟩ = _ := c0
  obtain ⟨n0, hn0⟩ : ∃ n, n = x0.length := ⟨_, rfl⟩
  have HR0 := Lib.hid r0.rd
  obtain ⟨n1, hn1⟩ : ∃ n, n = x1.length := ⟨_, rfl⟩
  have HR1 := Lib.hid r1.rd
  rw [← hn0] at c0 p0 l0 HS0
  have HN0 := Lib.hid hn0
  rw [← hn1] at c1 p1 l1 HS1
  have HN1 := Lib.hid hn1
  have cu0 := c0
  rw [hw2] at cu0
  have cu1 := c1
  rw [hw2] at cu1
  have HC := Lib.hid hc
  clear hc hL hX r0 r1
  have HQ := Lib.hid (show shapeOf 5 num [x0, x1] = wideP x0 x1 from rfl)
  by_cases h0 : n0 = 0
  · have HZ := Lib.hid (show wideP x0 x1 = (x1, true) from by unfold wideP; rw [if_pos (by omega)])
    subst h0
    clear hw2 hb2 hE hn0 hn1
    go_enter Tryz.func52, Tryz.ntmps52
    go_wp2_with fail
    rw [← HW2.out]
    go_wp2
    go_ret2
    exact ⟨_, by rw [HQ.out, HZ.out]; rfl, by rw [HQ.out, HZ.out]; exact HS1.out, HB2.out⟩
  · have q0 : ((n0 : Int) == 0) = false := by rw [beq_eq_false_iff_ne]; omega
    by_cases h1 : n1 = 0
    · have HZ := Lib.hid (show wideP x0 x1 = (x0, true) from by unfold wideP; rw [if_neg (by omega), show (x1.length == 0) = true from by rw [← hn1, h1]; rfl]; rfl)
      subst h1
      clear h0
      clear hw2 hb2 hE hn0 hn1
      go_enter Tryz.func52, Tryz.ntmps52
      go_wp2_with fail
      rw [← HW2.out]
      go_wp2_with fail
      go_quiet (fail)
      go_wp2
      go_ret2
      exact ⟨_, by rw [HQ.out, HZ.out]; rfl, by rw [HQ.out, HZ.out]; exact HS0.out.keep (keepX_drewN _ _ _), below_drewN HB2.out _⟩
    · have q1 : ((n1 : Int) == 0) = false := by rw [beq_eq_false_iff_ne]; omega
      have HZ := Lib.hid (show wideP x0 x1 = (x0, x0 == x1) from by unfold wideP; rw [if_neg (by omega), show (x1.length == 0) = false from by rw [← hn1, beq_eq_false_iff_ne]; exact h1]; rfl)
      have HE := Lib.hid (fun q => ints2_any A0 A1 n0 n1 k0 k1 x0 x1 (w2.drewN q) hn0 hn1 (by omega) (by omega) (HR0.out.drewN q) (HR1.out.drewN q))
      clear h0 h1
      clear hw2 hb2 hE hn0 hn1
      go_enter Tryz.func52, Tryz.ntmps52
      go_wp2_with fail
      rw [← HW2.out]
      go_wp2_with fail
      go_quiet ((go_at_call 22; exact Calls.quiet_of (HE.out _)))
      go_wp2
      go_ret2
      exact ⟨_, by rw [HQ.out, HZ.out]; rfl, by rw [HQ.out, HZ.out]; exact HS0.out.keep (keepX_drewN _ _ _), below_drewN HB2.out _⟩
set_option maxRecDepth 100000 in
set_option maxHeartbeats 4000000 in
theorem rshape_6 (X : Nat → Prop) (nm : ByteArray) (num : Nat) (av : Value) (pos : Int) (x0 x1 : List Int) (XA : Option Addr) (xc : Nat) (w : World) (hX : ∀ k, X k → k < w.heap.size) (hL : ShL X w XA [x0, x1]) :
    Calls Tryz.prog 52 #[.agg #[.int .i64 6, .string nm, .int .u64 (num : Int), av, .int .i64 pos], .slice XA 2 xc] w fun e w' => ∃ v, e = .returned (.tuple #[v, .bool (shapeOf 6 num [x0, x1]).2]) ∧ ShV X w' v (shapeOf 6 num [x0, x1]).1 ∧ Below w.heap.size w w' := by
  obtain ⟨w2, hw2⟩ : ∃ w2, w2 = w.alloc (.cells #[.int .i64 6, .string nm, .int .u64 (num : Int), av, .int .i64 pos] 41) := ⟨_, rfl⟩
  have hb2 : Below w.heap.size w w2 := by rw [hw2]; exact (Below.refl _ _).alloc (Nat.le_refl _) _
  have hE : w2.heap[w.heap.size]? = some (.cells #[.int .i64 6, .string nm, .int .u64 (num : Int), av, .int .i64 pos] 41 (0, 0)) := by rw [hw2]; exact heap_alloc_new w _
  have HW2 := Lib.hid hw2
  have HB2 := Lib.hid hb2
  have HXX := Lib.hid (fun k hk => Nat.lt_of_lt_of_le (hX k hk) hb2.size)
  have e0 := cell_of_row _ _ 0 _ _ _ hE
  have e2 := cell_of_row _ _ 2 _ _ _ hE
  obtain ⟨b, o, rfl, hb, hc⟩ := (hL.keep hb2).cells (by simp)
  obtain ⟨v0, c0, s0⟩ := hc 0 x0 rfl
  have HS0 := Lib.hid s0
  obtain ⟨A0, k0, rfl, p0, pp0, l0, r0⟩ := s0
  obtain ⟨v1, c1, s1⟩ := hc 1 x1 rfl
  have HS1 := Lib.hid s1
  obtain ⟨A1, k1, rfl, p1, pp1, l1, r1⟩ := s1
  have c0 : w2.cell? ⟨b, o, none⟩ = _ := c0
  obtain ⟨n0, hn0⟩ : ∃ n, n = x0.length := ⟨_, rfl⟩
  have HR0 := Lib.hid r0.rd
  obtain ⟨n1, hn1⟩ : ∃ n, n = x1.length := ⟨_, rfl⟩
  have HR1 := Lib.hid r1.rd
  rw [← hn0] at c0 p0 l0 HS0
  have HN0 := Lib.hid hn0
  rw [← hn1] at c1 p1 l1 HS1
  have HN1 := Lib.hid hn1
  have cu0 := c0
  rw [hw2] at cu0
  have cu1 := c1
  rw [hw2] at cu1
  have HC := Lib.hid hc
  clear hc hL hX r0 r1
  have HQ := Lib.hid (show shapeOf 6 num [x0, x1] = wideP x0 x1 from rfl)
  by_cases h0 : n0 = 0
  · have HZ := Lib.hid (show wideP x0 x1 = (x1, true) from by unfold wideP; rw [if_pos (by omega)])
    subst h0
    clear hw2 hb2 hE hn0 hn1
    go_enter Tryz.func52, Tryz.ntmps52
    go_wp2_with fail
    rw [← HW2.out]
    go_wp2
    go_ret2
    exact ⟨_, by rw [HQ.out, HZ.out]; rfl, by rw [HQ.out, HZ.out]; exact HS1.out, HB2.out⟩
  · have q0 : ((n0 : Int) == 0) = false := by rw [beq_eq_false_iff_ne]; omega
    by_cases h1 : n1 = 0
    · have HZ := Lib.hid (show wideP x0 x1 = (x0, true) from by unfold wideP; rw [if_neg (by omega), show (x1.length == 0) = true from by rw [← hn1, h1]; rfl]; rfl)
      subst h1
      clear h0
      clear hw2 hb2 hE hn0 hn1
      go_enter Tryz.func52, Tryz.ntmps52
      go_wp2_with fail
      rw [← HW2.out]
      go_wp2_with fail
      go_quiet (fail)
      go_wp2
      go_ret2
      exact ⟨_, by rw [HQ.out, HZ.out]; rfl, by rw [HQ.out, HZ.out]; exact HS0.out.keep (keepX_drewN _ _ _), below_drewN HB2.out _⟩
    · have q1 : ((n1 : Int) == 0) = false := by rw [beq_eq_false_iff_ne]; omega
      have HZ := Lib.hid (show wideP x0 x1 = (x0, x0 == x1) from by unfold wideP; rw [if_neg (by omega), show (x1.length == 0) = false from by rw [← hn1, beq_eq_false_iff_ne]; exact h1]; rfl)
      have HE := Lib.hid (fun q => ints2_any A0 A1 n0 n1 k0 k1 x0 x1 (w2.drewN q) hn0 hn1 (by omega) (by omega) (HR0.out.drewN q) (HR1.out.drewN q))
      clear h0 h1
      clear hw2 hb2 hE hn0 hn1
      go_enter Tryz.func52, Tryz.ntmps52
      go_wp2_with fail
      rw [← HW2.out]
      go_wp2_with fail
      go_quiet ((go_at_call 22; exact Calls.quiet_of (HE.out _)))
      go_wp2
      go_ret2
      exact ⟨_, by rw [HQ.out, HZ.out]; rfl, by rw [HQ.out, HZ.out]; exact HS0.out.keep (keepX_drewN _ _ _), below_drewN HB2.out _⟩
set_option maxRecDepth 100000 in
set_option maxHeartbeats 4000000 in
theorem rshape_8 (X : Nat → Prop) (nm : ByteArray) (num : Nat) (av : Value) (pos : Int) (x0 x1 : List Int) (XA : Option Addr) (xc : Nat) (w : World) (hX : ∀ k, X k → k < w.heap.size) (hL : ShL X w XA [x0, x1]) :
    Calls Tryz.prog 52 #[.agg #[.int .i64 8, .string nm, .int .u64 (num : Int), av, .int .i64 pos], .slice XA 2 xc] w fun e w' => ∃ v, e = .returned (.tuple #[v, .bool (shapeOf 8 num [x0, x1]).2]) ∧ ShV X w' v (shapeOf 8 num [x0, x1]).1 ∧ Below w.heap.size w w' := by
  obtain ⟨w2, hw2⟩ : ∃ w2, w2 = w.alloc (.cells #[.int .i64 8, .string nm, .int .u64 (num : Int), av, .int .i64 pos] 41) := ⟨_, rfl⟩
  have hb2 : Below w.heap.size w w2 := by rw [hw2]; exact (Below.refl _ _).alloc (Nat.le_refl _) _
  have hE : w2.heap[w.heap.size]? = some (.cells #[.int .i64 8, .string nm, .int .u64 (num : Int), av, .int .i64 pos] 41 (0, 0)) := by rw [hw2]; exact heap_alloc_new w _
  have HW2 := Lib.hid hw2
  have HB2 := Lib.hid hb2
  have HXX := Lib.hid (fun k hk => Nat.lt_of_lt_of_le (hX k hk) hb2.size)
  have e0 := cell_of_row _ _ 0 _ _ _ hE
  have e2 := cell_of_row _ _ 2 _ _ _ hE
  obtain ⟨b, o, rfl, hb, hc⟩ := (hL.keep hb2).cells (by simp)
  obtain ⟨v0, c0, s0⟩ := hc 0 x0 rfl
  have HS0 := Lib.hid s0
  obtain ⟨A0, k0, rfl, p0, pp0, l0, r0⟩ := s0
  obtain ⟨v1, c1, s1⟩ := hc 1 x1 rfl
  have HS1 := Lib.hid s1
  obtain ⟨A1, k1, rfl, p1, pp1, l1, r1⟩ := s1
  have c0 : w2.cell? ⟨b, o, none⟩ = _ := c0
  obtain ⟨n0, hn0⟩ : ∃ n, n = x0.length := ⟨_, rfl⟩
  have HR0 := Lib.hid r0.rd
  obtain ⟨n1, hn1⟩ : ∃ n, n = x1.length := ⟨_, rfl⟩
  have HR1 := Lib.hid r1.rd
  rw [← hn0] at c0 p0 l0 HS0
  have HN0 := Lib.hid hn0
  rw [← hn1] at c1 p1 l1 HS1
  have HN1 := Lib.hid hn1
  have cu0 := c0
  rw [hw2] at cu0
  have cu1 := c1
  rw [hw2] at cu1
  have HC := Lib.hid hc
  clear hc hL hX r0 r1
  have HQ := Lib.hid (show shapeOf 8 num [x0, x1] = wideP x0 x1 from rfl)
  by_cases h0 : n0 = 0
  · have HZ := Lib.hid (show wideP x0 x1 = (x1, true) from by unfold wideP; rw [if_pos (by omega)])
    subst h0
    clear hw2 hb2 hE hn0 hn1
    go_enter Tryz.func52, Tryz.ntmps52
    go_wp2_with fail
    rw [← HW2.out]
    go_wp2
    go_ret2
    exact ⟨_, by rw [HQ.out, HZ.out]; rfl, by rw [HQ.out, HZ.out]; exact HS1.out, HB2.out⟩
  · have q0 : ((n0 : Int) == 0) = false := by rw [beq_eq_false_iff_ne]; omega
    by_cases h1 : n1 = 0
    · have HZ := Lib.hid (show wideP x0 x1 = (x0, true) from by unfold wideP; rw [if_neg (by omega), show (x1.length == 0) = true from by rw [← hn1, h1]; rfl]; rfl)
      subst h1
      clear h0
      clear hw2 hb2 hE hn0 hn1
      go_enter Tryz.func52, Tryz.ntmps52
      go_wp2_with fail
      rw [← HW2.out]
      go_wp2_with fail
      go_quiet (fail)
      go_wp2
      go_ret2
      exact ⟨_, by rw [HQ.out, HZ.out]; rfl, by rw [HQ.out, HZ.out]; exact HS0.out.keep (keepX_drewN _ _ _), below_drewN HB2.out _⟩
    · have q1 : ((n1 : Int) == 0) = false := by rw [beq_eq_false_iff_ne]; omega
      have HZ := Lib.hid (show wideP x0 x1 = (x0, x0 == x1) from by unfold wideP; rw [if_neg (by omega), show (x1.length == 0) = false from by rw [← hn1, beq_eq_false_iff_ne]; exact h1]; rfl)
      have HE := Lib.hid (fun q => ints2_any A0 A1 n0 n1 k0 k1 x0 x1 (w2.drewN q) hn0 hn1 (by omega) (by omega) (HR0.out.drewN q) (HR1.out.drewN q))
      clear h0 h1
      clear hw2 hb2 hE hn0 hn1
      go_enter Tryz.func52, Tryz.ntmps52
      go_wp2_with fail
      rw [← HW2.out]
      go_wp2_with fail
      go_quiet ((go_at_call 22; exact Calls.quiet_of (HE.out _)))
      go_wp2
      go_ret2
      exact ⟨_, by rw [HQ.out, HZ.out]; rfl, by rw [HQ.out, HZ.out]; exact HS0.out.keep (keepX_drewN _ _ _), below_drewN HB2.out _⟩
set_option maxRecDepth 100000 in
set_option maxHeartbeats 4000000 in
theorem rshape_13 (X : Nat → Prop) (nm : ByteArray) (num : Nat) (av : Value) (pos : Int) (x0 x1 : List Int) (XA : Option Addr) (xc : Nat) (w : World) (hX : ∀ k, X k → k < w.heap.size) (hL : ShL X w XA [x0, x1]) :
    Calls Tryz.prog 52 #[.agg #[.int .i64 13, .string nm, .int .u64 (num : Int), av, .int .i64 pos], .slice XA 2 xc] w fun e w' => ∃ v, e = .returned (.tuple #[v, .bool (shapeOf 13 num [x0, x1]).2]) ∧ ShV X w' v (shapeOf 13 num [x0, x1]).1 ∧ Below w.heap.size w w' := by
  obtain ⟨w2, hw2⟩ : ∃ w2, w2 = w.alloc (.cells #[.int .i64 13, .string nm, .int .u64 (num : Int), av, .int .i64 pos] 41) := ⟨_, rfl⟩
  have hb2 : Below w.heap.size w w2 := by rw [hw2]; exact (Below.refl _ _).alloc (Nat.le_refl _) _
  have hE : w2.heap[w.heap.size]? = some (.cells #[.int .i64 13, .string nm, .int .u64 (num : Int), av, .int .i64 pos] 41 (0, 0)) := by rw [hw2]; exact heap_alloc_new w _
  have HW2 := Lib.hid hw2
  have HB2 := Lib.hid hb2
  have HXX := Lib.hid (fun k hk => Nat.lt_of_lt_of_le (hX k hk) hb2.size)
  have e0 := cell_of_row _ _ 0 _ _ _ hE
  have e2 := cell_of_row _ _ 2 _ _ _ hE
  obtain ⟨b, o, rfl, hb, hc⟩ := (hL.keep hb2).cells (by simp)
  obtain ⟨v0, c0, s0⟩ := hc 0 x0 rfl
  have HS0 := Lib.hid s0
  obtain ⟨A0, k0, rfl, p0, pp0, l0, r0⟩ := s0
  obtain ⟨v1, c1, s1⟩ := hc 1 x1 rfl
  have HS1 := Lib.hid s1
  obtain ⟨A1, k1, rfl, p1, pp1, l1, r1⟩ := s1
  have c0 : w2.cell? ⟨b, o, none⟩ = _ := c0
  obtain ⟨n0, hn0⟩ : ∃ n, n = x0.length := ⟨_, rfl⟩
  have HR0 := Lib.hid r0.rd
  obtain ⟨n1, hn1⟩ : ∃ n, n = x1.length := ⟨_, rfl⟩
  have HR1 := Lib.hid r1.rd
  rw [← hn0] at c0 p0 l0 HS0
  have HN0 := Lib.hid hn0
  rw [← hn1] at c1 p1 l1 HS1
  have HN1 := Lib.hid hn1
  have cu0 := c0
  rw [hw2] at cu0
  have cu1 := c1
  rw [hw2] at cu1
  have HC := Lib.hid hc
  clear hc hL hX r0 r1
  have HQ := Lib.hid (show shapeOf 13 num [x0, x1] = wideP x0 x1 from rfl)
  by_cases h0 : n0 = 0
  · have HZ := Lib.hid (show wideP x0 x1 = (x1, true) from by unfold wideP; rw [if_pos (by omega)])
    subst h0
    clear hw2 hb2 hE hn0 hn1
    go_enter Tryz.func52, Tryz.ntmps52
    go_wp2_with fail
    rw [← HW2.out]
    go_wp2
    go_ret2
    exact ⟨_, by rw [HQ.out, HZ.out]; rfl, by rw [HQ.out, HZ.out]; exact HS1.out, HB2.out⟩
  · have q0 : ((n0 : Int) == 0) = false := by rw [beq_eq_false_iff_ne]; omega
    by_cases h1 : n1 = 0
    · have HZ := Lib.hid (show wideP x0 x1 = (x0, true) from by unfold wideP; rw [if_neg (by omega), show (x1.length == 0) = true from by rw [← hn1, h1]; rfl]; rfl)
      subst h1
      clear h0
      clear hw2 hb2 hE hn0 hn1
      go_enter Tryz.func52, Tryz.ntmps52
      go_wp2_with fail
      rw [← HW2.out]
      go_wp2_with fail
      go_quiet (fail)
      go_wp2
      go_ret2
      exact ⟨_, by rw [HQ.out, HZ.out]; rfl, by rw [HQ.out, HZ.out]; exact HS0.out.keep (keepX_drewN _ _ _), below_drewN HB2.out _⟩
    · have q1 : ((n1 : Int) == 0) = false := by rw [beq_eq_false_iff_ne]; omega
      have HZ := Lib.hid (show wideP x0 x1 = (x0, x0 == x1) from by unfold wideP; rw [if_neg (by omega), show (x1.length == 0) = false from by rw [← hn1, beq_eq_false_iff_ne]; exact h1]; rfl)
      have HE := Lib.hid (fun q => ints2_any A0 A1 n0 n1 k0 k1 x0 x1 (w2.drewN q) hn0 hn1 (by omega) (by omega) (HR0.out.drewN q) (HR1.out.drewN q))
      clear h0 h1
      clear hw2 hb2 hE hn0 hn1
      go_enter Tryz.func52, Tryz.ntmps52
      go_wp2_with fail
      rw [← HW2.out]
      go_wp2_with fail
      go_quiet ((go_at_call 22; exact Calls.quiet_of (HE.out _)))
      go_wp2
      go_ret2
      exact ⟨_, by rw [HQ.out, HZ.out]; rfl, by rw [HQ.out, HZ.out]; exact HS0.out.keep (keepX_drewN _ _ _), below_drewN HB2.out _⟩
set_option maxRecDepth 100000 in
set_option maxHeartbeats 4000000 in
theorem rshape_14 (X : Nat → Prop) (nm : ByteArray) (num : Nat) (av : Value) (pos : Int) (x0 x1 x2 : List Int) (XA : Option Addr) (xc : Nat) (w : World) (hX : ∀ k, X k → k < w.heap.size) (hL : ShL X w XA [x0, x1, x2]) :
    Calls Tryz.prog 52 #[.agg #[.int .i64 14, .string nm, .int .u64 (num : Int), av, .int .i64 pos], .slice XA 3 xc] w fun e w' => ∃ v, e = .returned (.tuple #[v, .bool (shapeOf 14 num [x0, x1, x2]).2]) ∧ ShV X w' v (shapeOf 14 num [x0, x1, x2]).1 ∧ Below w.heap.size w w' := by
  obtain ⟨w2, hw2⟩ : ∃ w2, w2 = w.alloc (.cells #[.int .i64 14, .string nm, .int .u64 (num : Int), av, .int .i64 pos] 41) := ⟨_, rfl⟩
  have hb2 : Below w.heap.size w w2 := by rw [hw2]; exact (Below.refl _ _).alloc (Nat.le_refl _) _
  have hE : w2.heap[w.heap.size]? = some (.cells #[.int .i64 14, .string nm, .int .u64 (num : Int), av, .int .i64 pos] 41 (0, 0)) := by rw [hw2]; exact heap_alloc_new w _
  have HW2 := Lib.hid hw2
  have HB2 := Lib.hid hb2
  have HXX := Lib.hid (fun k hk => Nat.lt_of_lt_of_le (hX k hk) hb2.size)
  have e0 := cell_of_row _ _ 0 _ _ _ hE
  have e2 := cell_of_row _ _ 2 _ _ _ hE
  obtain ⟨b, o, rfl, hb, hc⟩ := (hL.keep hb2).cells (by simp)
  obtain ⟨v0, c0, s0⟩ := hc 0 x0 rfl
  have HS0 := Lib.hid s0
  obtain ⟨A0, k0, rfl, p0, pp0, l0, r0⟩ := s0
  obtain ⟨v1, c1, s1⟩ := hc 1 x1 rfl
  have HS1 := Lib.hid s1
  obtain ⟨A1, k1, rfl, p1, pp1, l1, r1⟩ := s1
  obtain ⟨v2, c2, s2⟩ := hc 2 x2 rfl
  have HS2 := Lib.hid s2
  obtain ⟨A2, k2, rfl, p2, pp2, l2, r2⟩ := s2
  have c0 : w2.cell? ⟨b, o, none⟩ = _ := c0
  obtain ⟨n0, hn0⟩ : ∃ n, n = x0.length := ⟨_, rfl⟩
  have HR0 := Lib.hid r0.rd
  obtain ⟨n1, hn1⟩ : ∃ n, n = x1.length := ⟨_, rfl⟩
  have HR1 := Lib.hid r1.rd
  obtain ⟨n2, hn2⟩ : ∃ n, n = x2.length := ⟨_, rfl⟩
  have HR2 := Lib.hid r2.rd
  rw [← hn0] at c0 p0 l0 HS0
  have HN0 := Lib.hid hn0
  rw [← hn1] at c1 p1 l1 HS1
  have HN1 := Lib.hid hn1
  rw [← hn2] at c2 p2 l2 HS2
  have HN2 := Lib.hid hn2
  have cu0 := c0
  rw [hw2] at cu0
  have cu1 := c1
  rw [hw2] at cu1
  have cu2 := c2
  rw [hw2] at cu2
  have HC := Lib.hid hc
  clear hc hL hX r0 r1 r2
  have HQ := Lib.hid (show shapeOf 14 num [x0, x1, x2] = (x1, (x1 == x2) && (x0.length == 0 || x0 == x1)) from rfl)
  have HE1 := Lib.hid (fun q => ints2_any A1 A2 n1 n2 k1 k2 x1 x2 (w2.drewN q) hn1 hn2 (by omega) (by omega) (HR1.out.drewN q) (HR2.out.drewN q))
  have HE2 := Lib.hid (fun q => ints2_any A0 A1 n0 n1 k0 k1 x0 x1 (w2.drewN q) hn0 hn1 (by omega) (by omega) (HR0.out.drewN q) (HR1.out.drewN q))
  cases h1 : (x1 == x2) with
  | false =>
    rw [h1] at HE1
    have HZ := Lib.hid (show ((x1 == x2) && (x0.length == 0 || x0 == x1)) = false from by rw [h1]; rfl)
    clear h1 HE2
    clear hw2 hb2 hE hn0 hn1 hn2
    go_enter Tryz.func52, Tryz.ntmps52
    go_wp2_with fail
    rw [← HW2.out]
    go_wp2_with fail
    go_quiet ((go_at_call 22; exact Calls.quiet_of (HE1.out _)))
    go_wp2
    go_ret2
    exact ⟨_, by rw [HQ.out, HZ.out]; rfl, by rw [HQ.out]; exact HS1.out.keep (keepX_drewN _ _ _), below_drewN HB2.out _⟩
  | true =>
    rw [h1] at HE1
    by_cases h0 : n0 = 0
    · have HZ := Lib.hid (show ((x1 == x2) && (x0.length == 0 || x0 == x1)) = true from by rw [h1, ← hn0, h0]; rfl)
      subst h0
      clear h1 HE2
      clear hw2 hb2 hE hn0 hn1 hn2
      go_enter Tryz.func52, Tryz.ntmps52
      go_wp2_with fail
      rw [← HW2.out]
      go_wp2_with fail
      go_quiet ((go_at_call 22; exact Calls.quiet_of (HE1.out _)))
      go_wp2
      go_ret2
      exact ⟨_, by rw [HQ.out, HZ.out]; rfl, by rw [HQ.out]; exact HS1.out.keep (keepX_drewN _ _ _), below_drewN HB2.out _⟩
    · have q0 : ((n0 : Int) == 0) = false := by rw [beq_eq_false_iff_ne]; omega
      obtain ⟨bo, hbo⟩ : ∃ bo, bo = (x0 == x1) := ⟨_, rfl⟩
      rw [← hbo] at HE2
      have HZ := Lib.hid (show ((x1 == x2) && (x0.length == 0 || x0 == x1)) = bo from by
        rw [h1, ← hn0, ← hbo, beq_eq_false_iff_ne.2 h0]
        cases bo <;> rfl)
      clear h1 h0 hbo
      clear hw2 hb2 hE hn0 hn1 hn2
      go_enter Tryz.func52, Tryz.ntmps52
      go_wp2_with fail
      rw [← HW2.out]
      go_wp2_with fail
      go_quiet (first
        | (go_at_call_of 22 A2; exact Calls.quiet_of (HE1.out _))
        | (go_at_call_of 22 A0; exact Calls.quiet_of (HE2.out _)))
      go_wp2
      go_ret2
      exact ⟨_, by rw [HQ.out, HZ.out]; rfl, by rw [HQ.out]; exact HS1.out.keep (keepX_drewN _ _ _), below_drewN HB2.out _⟩
theorem rd_at' {w : World} {A : Option Addr} {l : List Int} (h : Rd w w.heap.size A (l.map VI)) (hl : 0 < l.length) : ∃ b o, A = some ⟨b, o, none⟩ ∧ b < w.heap.size ∧ ∀ (j : Nat) (d : Int), l[j]? = some d → w.cell? ⟨b, o + j, none⟩ = some (.int .i64 d) := by
  rcases h with h | ⟨b, o, hA, hb, hc⟩
  · have := congrArg List.length h
    rw [List.length_map] at this
    simp at this
    subst this
    simp at hl
  · exact ⟨b, o, hA, hb, fun j d hd => hc j _ (by rw [List.getElem?_map, hd]; rfl)⟩
theorem sh_keep {w2 w w' : World} {b o : Nat} {u v : Value} (hb : b < w2.heap.size) (h : w2.heap.size ≤ w.heap.size ∧ w.cell? ⟨b, o, none⟩ = some u ∧ w.cell? ⟨b, o + 1, none⟩ = some v ∧ Below w2.heap.size w2 w) (hw : Below w2.heap.size w w') :
    w2.heap.size ≤ w'.heap.size ∧ w'.cell? ⟨b, o, none⟩ = some u ∧ w'.cell? ⟨b, o + 1, none⟩ = some v ∧ Below w2.heap.size w2 w' :=
  ⟨Nat.le_trans h.1 hw.size, (hw.cell (p := ⟨b, o, none⟩) hb).trans h.2.1, (hw.cell (p := ⟨b, o + 1, none⟩) hb).trans h.2.2.1, h.2.2.2.trans hw⟩
theorem sh_alloc {w2 w : World} {b o : Nat} {u v : Value} (hb : b < w2.heap.size) (h : w2.heap.size ≤ w.heap.size ∧ w.cell? ⟨b, o, none⟩ = some u ∧ w.cell? ⟨b, o + 1, none⟩ = some v ∧ Below w2.heap.size w2 w) (ob : Obj) :
    w2.heap.size ≤ (w.alloc ob).heap.size ∧ (w.alloc ob).cell? ⟨b, o, none⟩ = some u ∧ (w.alloc ob).cell? ⟨b, o + 1, none⟩ = some v ∧ Below w2.heap.size w2 (w.alloc ob) :=
  sh_keep hb h ((Below.refl _ _).alloc h.1 ob)
set_option maxRecDepth 100000 in
set_option maxHeartbeats 4000000 in
theorem rshape_7_11 (X : Nat → Prop) (nm : ByteArray) (num : Nat) (av : Value) (pos : Int) (p q : Int) (XA : Option Addr) (xc : Nat) (w : World) (hX : ∀ k, X k → k < w.heap.size) (hL : ShL X w XA [[p], [q]]) :
    Calls Tryz.prog 52 #[.agg #[.int .i64 7, .string nm, .int .u64 (num : Int), av, .int .i64 pos], .slice XA 2 xc] w fun e w' => ∃ v, e = .returned (.tuple #[v, .bool (shapeOf 7 num [[p], [q]]).2]) ∧ ShV X w' v (shapeOf 7 num [[p], [q]]).1 ∧ Below w.heap.size w w' := by
  obtain ⟨w2, hw2⟩ : ∃ w2, w2 = w.alloc (.cells #[.int .i64 7, .string nm, .int .u64 (num : Int), av, .int .i64 pos] 41) := ⟨_, rfl⟩
  have hb2 : Below w.heap.size w w2 := by rw [hw2]; exact (Below.refl _ _).alloc (Nat.le_refl _) _
  have hE : w2.heap[w.heap.size]? = some (.cells #[.int .i64 7, .string nm, .int .u64 (num : Int), av, .int .i64 pos] 41 (0, 0)) := by rw [hw2]; exact heap_alloc_new w _
  have HW2 := Lib.hid hw2
  have HB2 := Lib.hid hb2
  have HXX := Lib.hid (fun k hk => Nat.lt_of_lt_of_le (hX k hk) hb2.size)
  have e0 := cell_of_row _ _ 0 _ _ _ hE
  have e2 := cell_of_row _ _ 2 _ _ _ hE
  obtain ⟨b, o, rfl, hb, hc⟩ := (hL.keep hb2).cells (by simp)
  obtain ⟨v0, c0, s0⟩ := hc 0 [p] rfl
  have HS0 := Lib.hid s0
  obtain ⟨A0, k0, rfl, p0, pp0, l0, r0⟩ := s0
  obtain ⟨v1, c1, s1⟩ := hc 1 [q] rfl
  have HS1 := Lib.hid s1
  obtain ⟨A1, k1, rfl, p1, pp1, l1, r1⟩ := s1
  have c0 : w2.cell? ⟨b, o, none⟩ = _ := c0
  obtain ⟨n0, hn0⟩ : ∃ n, n = [p].length := ⟨_, rfl⟩
  have HR0 := Lib.hid r0.rd
  obtain ⟨n1, hn1⟩ : ∃ n, n = [q].length := ⟨_, rfl⟩
  have HR1 := Lib.hid r1.rd
  rw [← hn0] at c0 p0 l0 HS0
  have HN0 := Lib.hid hn0
  rw [← hn1] at c1 p1 l1 HS1
  have HN1 := Lib.hid hn1
  have cu0 := c0
  rw [hw2] at cu0
  have cu1 := c1
  rw [hw2] at cu1
  have HC := Lib.hid hc
  clear hc hL hX r0 r1
  obtain ⟨b0, o0, rfl, _, d0⟩ := rd_at' HR0.out (by simp)
  obtain ⟨b1, o1, rfl, _, d1⟩ := rd_at' HR1.out (by simp)
  have g0 : w2.cell? ⟨b0, o0, none⟩ = some (.int .i64 p) := d0 0 _ rfl
  have g1 : w2.cell? ⟨b1, o1, none⟩ = some (.int .i64 q) := d1 0 _ rfl
  have w1 : IntKind.i64.wrap 1 = 1 := rfl
  have w0 : IntKind.i64.wrap 0 = 0 := rfl
  obtain rfl : n0 = 1 := hn0
  obtain rfl : n1 = 1 := hn1
  by_cases hpq : p = q
  · have t1 : (p == q) = true := by rw [beq_iff_eq]; exact hpq
    have t2 : (p != q) = false := by unfold bne; rw [t1]; rfl
    have HQ := Lib.hid (show shapeOf 7 num [[p], [q]] = ([], true) from by show matP _ _ = _; unfold matP; rw [if_neg (by simp; exact hpq)]; rfl)
    have f1 : ∀ W, (Instr.sliceAt 22 (.slice (some ⟨b0, o0, none⟩) 1 k0) none (some (.int .i64 0)) none).run Tryz.prog W = .ok (.slice (cutA (some ⟨b0, o0, none⟩) 0 1 k0) 0 k0) W := fun W => run_cutAt_to (P := Tryz.prog) Tryz.underlying22 int_size (some ⟨b0, o0, none⟩) (n := 1) (c := k0) (h := 0) (by omega) W
    have f2 : ∀ W, (Instr.sliceAt 22 (.slice (some ⟨b1, o1, none⟩) 1 k1) (some (.int .i64 1)) none none).run Tryz.prog W = .ok (.slice (cutA (some ⟨b1, o1, none⟩) 1 1 k1) 0 (k1 - 1)) W := fun W => run_cutAt_from (P := Tryz.prog) Tryz.underlying22 int_size (some ⟨b1, o1, none⟩) (n := 1) (c := k1) (k := 1) (by omega) W
    have hA := cutA_zero (some ⟨b0, o0, none⟩) 1 k0 (.inr ⟨b0, o0, rfl⟩)
    obtain ⟨C1, hC1⟩ : ∃ C1, C1 = cutA (some ⟨b1, o1, none⟩) 1 1 k1 := ⟨_, rfl⟩
    rw [← hC1] at f2
    rw [hA] at f1
    have RA := Lib.hid (show Rd w2 w2.heap.size (some ⟨b0, o0, none⟩) (([] : List Int).map VI) from by
      have := HR0.out.take 0
      simpa using this)
    have RB := Lib.hid (show Rd w2 w2.heap.size C1 (([] : List Int).map VI) from by
      rw [hC1]
      have := HR1.out.cut (k := 1) (c := k1) (by simp; omega)
      simpa using this)
    have hnC := rd_nil_len RB.out
    have HX2 := Lib.hid (show ∀ k, X k → k < w2.heap.size from HXX.out)
    clear hpq d0 d1 hA hC1
    clear hw2 hb2 hE
    go_enter Tryz.func52, Tryz.ntmps52
    go_wp2_with fail
    rw [← HW2.out]
    go_quiet (fail)
    go_wp2_with fail
    obtain ⟨w3, hw3⟩ : ∃ w3, w3 = w2.drewN nq := ⟨_, rfl⟩
    rw [← hw3]
    have S0 := Lib.hid (show w2.heap.size ≤ w3.drew.heap.size ∧ w3.drew.cell? ⟨b, o, none⟩ = some (.slice (some ⟨b0, o0, none⟩) 1 k0) ∧ w3.drew.cell? ⟨b, o + 1, none⟩ = some (.slice (some ⟨b1, o1, none⟩) 1 k1) ∧ Below w2.heap.size w2 w3.drew from by rw [hw3]; exact ⟨Nat.le_refl _, c0, c1, (below_drewN (Below.refl _ _) _).drew⟩)
    have HBS := Lib.hid hb
    clear hw3 c0 c1 cu0 cu1 e0 e2
    go_region_held3 (fun w' => w2.heap.size ≤ w'.heap.size ∧ w'.cell? ⟨b, o, none⟩ = some (.slice (some ⟨b0, o0, none⟩) 1 k0) ∧ w'.cell? ⟨b, o + 1, none⟩ = some (.slice (some ⟨b1, o1, none⟩) 1 k1) ∧ Below w2.heap.size w2 w')
      (first | with_reducible exact S0.out | assumption | exact sh_keep HBS.out (by assumption) (by assumption) | exact sh_alloc HBS.out (by assumption) _)
      (first
        | (refine appV_step rfl (.tmp 95) (.tmp 101) rfl w2.heap.size _ 0 [] 0 rfl rfl (Own.made _ _ (And.left (by assumption))) (some ⟨b0, o0, none⟩) 0 k0 w2.heap.size ([] : List Int) rfl rfl (RA.out.below (And.right (And.right (And.right (by assumption))))) (fun h => by cases h) (by omega) (And.left (by assumption)) ?_; intro A3 k3 w4 ho4 hb4)
        | (refine appV_step rfl (.tmp 102) (.tmp 106) rfl w2.heap.size A3 k3 ([] ++ ([] : List Int)) 0 rfl rfl ho4 C1 0 (k1 - 1) w2.heap.size ([] : List Int) rfl rfl (RB.out.below (And.right (And.right (And.right (by assumption))))) hnC (by omega) (And.left (by assumption)) ?_; intro A5 k5 w5 ho5 hb5))
    all_goals
      go_wp2
      go_ret2
      have hS : w2.heap.size ≤ w5.heap.size ∧ w5.cell? ⟨b, o, none⟩ = some (.slice (some ⟨b0, o0, none⟩) 1 k0) ∧ w5.cell? ⟨b, o + 1, none⟩ = some (.slice (some ⟨b1, o1, none⟩) 1 k1) ∧ Below w2.heap.size w2 w5 := by assumption
      exact ⟨_, by rw [HQ.out]; rfl, by rw [HQ.out]; exact ShV.of_own ho5 HX2.out rfl (by simp), HB2.out.trans (hS.2.2.2.mono HB2.out.size)⟩
  · have t1 : (p == q) = false := by rw [beq_eq_false_iff_ne]; exact hpq
    have t2 : (p != q) = true := by unfold bne; rw [t1]; rfl
    have HQ := Lib.hid (show shapeOf 7 num [[p], [q]] = ([], false) from by show matP _ _ = _; unfold matP; rw [if_pos (by simp; exact hpq)])
    clear hpq d0 d1
    clear hw2 hb2 hE
    go_enter Tryz.func52, Tryz.ntmps52
    go_wp2_with fail
    rw [← HW2.out]
    go_quiet (fail)
    go_wp2
    go_ret2
    exact ⟨_, by rw [HQ.out]; rfl, by rw [HQ.out]; exact ShV.nil _ _, below_drewN HB2.out _⟩
set_option maxRecDepth 100000 in
set_option maxHeartbeats 4000000 in
theorem rshape_7_12 (X : Nat → Prop) (nm : ByteArray) (num : Nat) (av : Value) (pos : Int) (p q q2 : Int) (XA : Option Addr) (xc : Nat) (w : World) (hX : ∀ k, X k → k < w.heap.size) (hL : ShL X w XA [[p], [q, q2]]) :
    Calls Tryz.prog 52 #[.agg #[.int .i64 7, .string nm, .int .u64 (num : Int), av, .int .i64 pos], .slice XA 2 xc] w fun e w' => ∃ v, e = .returned (.tuple #[v, .bool (shapeOf 7 num [[p], [q, q2]]).2]) ∧ ShV X w' v (shapeOf 7 num [[p], [q, q2]]).1 ∧ Below w.heap.size w w' := by
  obtain ⟨w2, hw2⟩ : ∃ w2, w2 = w.alloc (.cells #[.int .i64 7, .string nm, .int .u64 (num : Int), av, .int .i64 pos] 41) := ⟨_, rfl⟩
  have hb2 : Below w.heap.size w w2 := by rw [hw2]; exact (Below.refl _ _).alloc (Nat.le_refl _) _
  have hE : w2.heap[w.heap.size]? = some (.cells #[.int .i64 7, .string nm, .int .u64 (num : Int), av, .int .i64 pos] 41 (0, 0)) := by rw [hw2]; exact heap_alloc_new w _
  have HW2 := Lib.hid hw2
  have HB2 := Lib.hid hb2
  have HXX := Lib.hid (fun k hk => Nat.lt_of_lt_of_le (hX k hk) hb2.size)
  have e0 := cell_of_row _ _ 0 _ _ _ hE
  have e2 := cell_of_row _ _ 2 _ _ _ hE
  obtain ⟨b, o, rfl, hb, hc⟩ := (hL.keep hb2).cells (by simp)
  obtain ⟨v0, c0, s0⟩ := hc 0 [p] rfl
  have HS0 := Lib.hid s0
  obtain ⟨A0, k0, rfl, p0, pp0, l0, r0⟩ := s0
  obtain ⟨v1, c1, s1⟩ := hc 1 [q, q2] rfl
  have HS1 := Lib.hid s1
  obtain ⟨A1, k1, rfl, p1, pp1, l1, r1⟩ := s1
  have c0 : w2.cell? ⟨b, o, none⟩ = _ := c0
  obtain ⟨n0, hn0⟩ : ∃ n, n = [p].length := ⟨_, rfl⟩
  have HR0 := Lib.hid r0.rd
  obtain ⟨n1, hn1⟩ : ∃ n, n = [q, q2].length := ⟨_, rfl⟩
  have HR1 := Lib.hid r1.rd
  rw [← hn0] at c0 p0 l0 HS0
  have HN0 := Lib.hid hn0
  rw [← hn1] at c1 p1 l1 HS1
  have HN1 := Lib.hid hn1
  have cu0 := c0
  rw [hw2] at cu0
  have cu1 := c1
  rw [hw2] at cu1
  have HC := Lib.hid hc
  clear hc hL hX r0 r1
  obtain ⟨b0, o0, rfl, _, d0⟩ := rd_at' HR0.out (by simp)
  obtain ⟨b1, o1, rfl, _, d1⟩ := rd_at' HR1.out (by simp)
  have g0 : w2.cell? ⟨b0, o0, none⟩ = some (.int .i64 p) := d0 0 _ rfl
  have g1 : w2.cell? ⟨b1, o1, none⟩ = some (.int .i64 q) := d1 0 _ rfl
  have w1 : IntKind.i64.wrap 1 = 1 := rfl
  have w0 : IntKind.i64.wrap 0 = 0 := rfl
  obtain rfl : n0 = 1 := hn0
  obtain rfl : n1 = 2 := hn1
  by_cases hpq : p = q
  · have t1 : (p == q) = true := by rw [beq_iff_eq]; exact hpq
    have t2 : (p != q) = false := by unfold bne; rw [t1]; rfl
    have HQ := Lib.hid (show shapeOf 7 num [[p], [q, q2]] = ([q2], true) from by show matP _ _ = _; unfold matP; rw [if_neg (by simp; exact hpq)]; rfl)
    have f1 : ∀ W, (Instr.sliceAt 22 (.slice (some ⟨b0, o0, none⟩) 1 k0) none (some (.int .i64 0)) none).run Tryz.prog W = .ok (.slice (cutA (some ⟨b0, o0, none⟩) 0 1 k0) 0 k0) W := fun W => run_cutAt_to (P := Tryz.prog) Tryz.underlying22 int_size (some ⟨b0, o0, none⟩) (n := 1) (c := k0) (h := 0) (by omega) W
    have f2 : ∀ W, (Instr.sliceAt 22 (.slice (some ⟨b1, o1, none⟩) 2 k1) (some (.int .i64 1)) none none).run Tryz.prog W = .ok (.slice (cutA (some ⟨b1, o1, none⟩) 1 1 k1) 1 (k1 - 1)) W := fun W => run_cutAt_from (P := Tryz.prog) Tryz.underlying22 int_size (some ⟨b1, o1, none⟩) (n := 2) (c := k1) (k := 1) (by omega) W
    have hA := cutA_zero (some ⟨b0, o0, none⟩) 1 k0 (.inr ⟨b0, o0, rfl⟩)
    obtain ⟨C1, hC1⟩ : ∃ C1, C1 = cutA (some ⟨b1, o1, none⟩) 1 1 k1 := ⟨_, rfl⟩
    rw [← hC1] at f2
    rw [hA] at f1
    have RA := Lib.hid (show Rd w2 w2.heap.size (some ⟨b0, o0, none⟩) (([] : List Int).map VI) from by
      have := HR0.out.take 0
      simpa using this)
    have RB := Lib.hid (show Rd w2 w2.heap.size C1 (([q2] : List Int).map VI) from by
      rw [hC1]
      have := HR1.out.cut (k := 1) (c := k1) (by simp; omega)
      simpa using this)
    have hnC := rd_nil_len RB.out
    have HX2 := Lib.hid (show ∀ k, X k → k < w2.heap.size from HXX.out)
    clear hpq d0 d1 hA hC1
    clear hw2 hb2 hE
    go_enter Tryz.func52, Tryz.ntmps52
    go_wp2_with fail
    rw [← HW2.out]
    go_quiet (fail)
    go_wp2_with fail
    obtain ⟨w3, hw3⟩ : ∃ w3, w3 = w2.drewN nq := ⟨_, rfl⟩
    rw [← hw3]
    have S0 := Lib.hid (show w2.heap.size ≤ w3.drew.heap.size ∧ w3.drew.cell? ⟨b, o, none⟩ = some (.slice (some ⟨b0, o0, none⟩) 1 k0) ∧ w3.drew.cell? ⟨b, o + 1, none⟩ = some (.slice (some ⟨b1, o1, none⟩) 2 k1) ∧ Below w2.heap.size w2 w3.drew from by rw [hw3]; exact ⟨Nat.le_refl _, c0, c1, (below_drewN (Below.refl _ _) _).drew⟩)
    have HBS := Lib.hid hb
    clear hw3 c0 c1 cu0 cu1 e0 e2
    go_region_held3 (fun w' => w2.heap.size ≤ w'.heap.size ∧ w'.cell? ⟨b, o, none⟩ = some (.slice (some ⟨b0, o0, none⟩) 1 k0) ∧ w'.cell? ⟨b, o + 1, none⟩ = some (.slice (some ⟨b1, o1, none⟩) 2 k1) ∧ Below w2.heap.size w2 w')
      (first | with_reducible exact S0.out | assumption | exact sh_keep HBS.out (by assumption) (by assumption) | exact sh_alloc HBS.out (by assumption) _)
      (first
        | (refine appV_step rfl (.tmp 95) (.tmp 101) rfl w2.heap.size _ 0 [] 0 rfl rfl (Own.made _ _ (And.left (by assumption))) (some ⟨b0, o0, none⟩) 0 k0 w2.heap.size ([] : List Int) rfl rfl (RA.out.below (And.right (And.right (And.right (by assumption))))) (fun h => by cases h) (by omega) (And.left (by assumption)) ?_; intro A3 k3 w4 ho4 hb4)
        | (refine appV_step rfl (.tmp 102) (.tmp 106) rfl w2.heap.size A3 k3 ([] ++ ([] : List Int)) 0 rfl rfl ho4 C1 1 (k1 - 1) w2.heap.size ([q2] : List Int) rfl rfl (RB.out.below (And.right (And.right (And.right (by assumption))))) hnC (by omega) (And.left (by assumption)) ?_; intro A5 k5 w5 ho5 hb5))
    all_goals
      go_wp2
      go_ret2
      have hS : w2.heap.size ≤ w5.heap.size ∧ w5.cell? ⟨b, o, none⟩ = some (.slice (some ⟨b0, o0, none⟩) 1 k0) ∧ w5.cell? ⟨b, o + 1, none⟩ = some (.slice (some ⟨b1, o1, none⟩) 2 k1) ∧ Below w2.heap.size w2 w5 := by assumption
      exact ⟨_, by rw [HQ.out]; rfl, by rw [HQ.out]; exact ShV.of_own ho5 HX2.out rfl (by simp), HB2.out.trans (hS.2.2.2.mono HB2.out.size)⟩
  · have t1 : (p == q) = false := by rw [beq_eq_false_iff_ne]; exact hpq
    have t2 : (p != q) = true := by unfold bne; rw [t1]; rfl
    have HQ := Lib.hid (show shapeOf 7 num [[p], [q, q2]] = ([], false) from by show matP _ _ = _; unfold matP; rw [if_pos (by simp; exact hpq)])
    clear hpq d0 d1
    clear hw2 hb2 hE
    go_enter Tryz.func52, Tryz.ntmps52
    go_wp2_with fail
    rw [← HW2.out]
    go_quiet (fail)
    go_wp2
    go_ret2
    exact ⟨_, by rw [HQ.out]; rfl, by rw [HQ.out]; exact ShV.nil _ _, below_drewN HB2.out _⟩
set_option maxRecDepth 100000 in
set_option maxHeartbeats 4000000 in
theorem rshape_7_21 (X : Nat → Prop) (nm : ByteArray) (num : Nat) (av : Value) (pos : Int) (p p2 q : Int) (XA : Option Addr) (xc : Nat) (w : World) (hX : ∀ k, X k → k < w.heap.size) (hL : ShL X w XA [[p, p2], [q]]) :
    Calls Tryz.prog 52 #[.agg #[.int .i64 7, .string nm, .int .u64 (num : Int), av, .int .i64 pos], .slice XA 2 xc] w fun e w' => ∃ v, e = .returned (.tuple #[v, .bool (shapeOf 7 num [[p, p2], [q]]).2]) ∧ ShV X w' v (shapeOf 7 num [[p, p2], [q]]).1 ∧ Below w.heap.size w w' := by
  obtain ⟨w2, hw2⟩ : ∃ w2, w2 = w.alloc (.cells #[.int .i64 7, .string nm, .int .u64 (num : Int), av, .int .i64 pos] 41) := ⟨_, rfl⟩
  have hb2 : Below w.heap.size w w2 := by rw [hw2]; exact (Below.refl _ _).alloc (Nat.le_refl _) _
  have hE : w2.heap[w.heap.size]? = some (.cells #[.int .i64 7, .string nm, .int .u64 (num : Int), av, .int .i64 pos] 41 (0, 0)) := by rw [hw2]; exact heap_alloc_new w _
  have HW2 := Lib.hid hw2
  have HB2 := Lib.hid hb2
  have HXX := Lib.hid (fun k hk => Nat.lt_of_lt_of_le (hX k hk) hb2.size)
  have e0 := cell_of_row _ _ 0 _ _ _ hE
  have e2 := cell_of_row _ _ 2 _ _ _ hE
  obtain ⟨b, o, rfl, hb, hc⟩ := (hL.keep hb2).cells (by simp)
  obtain ⟨v0, c0, s0⟩ := hc 0 [p, p2] rfl
  have HS0 := Lib.hid s0
  obtain ⟨A0, k0, rfl, p0, pp0, l0, r0⟩ := s0
  obtain ⟨v1, c1, s1⟩ := hc 1 [q] rfl
  have HS1 := Lib.hid s1
  obtain ⟨A1, k1, rfl, p1, pp1, l1, r1⟩ := s1
  have c0 : w2.cell? ⟨b, o, none⟩ = _ := c0
  obtain ⟨n0, hn0⟩ : ∃ n, n = [p, p2].length := ⟨_, rfl⟩
  have HR0 := Lib.hid r0.rd
  obtain ⟨n1, hn1⟩ : ∃ n, n = [q].length := ⟨_, rfl⟩
  have HR1 := Lib.hid r1.rd
  rw [← hn0] at c0 p0 l0 HS0
  have HN0 := Lib.hid hn0
  rw [← hn1] at c1 p1 l1 HS1
  have HN1 := Lib.hid hn1
  have cu0 := c0
  rw [hw2] at cu0
  have cu1 := c1
  rw [hw2] at cu1
  have HC := Lib.hid hc
  clear hc hL hX r0 r1
  obtain ⟨b0, o0, rfl, _, d0⟩ := rd_at' HR0.out (by simp)
  obtain ⟨b1, o1, rfl, _, d1⟩ := rd_at' HR1.out (by simp)
  have g0 : w2.cell? ⟨b0, o0 + 1, none⟩ = some (.int .i64 p2) := d0 1 _ rfl
  have g1 : w2.cell? ⟨b1, o1, none⟩ = some (.int .i64 q) := d1 0 _ rfl
  have w1 : IntKind.i64.wrap 1 = 1 := rfl
  have w0 : IntKind.i64.wrap 0 = 0 := rfl
  obtain rfl : n0 = 2 := hn0
  obtain rfl : n1 = 1 := hn1
  by_cases hpq : p2 = q
  · have t1 : (p2 == q) = true := by rw [beq_iff_eq]; exact hpq
    have t2 : (p2 != q) = false := by unfold bne; rw [t1]; rfl
    have HQ := Lib.hid (show shapeOf 7 num [[p, p2], [q]] = ([p], true) from by show matP _ _ = _; unfold matP; rw [if_neg (by simp; exact hpq)]; rfl)
    have f1 : ∀ W, (Instr.sliceAt 22 (.slice (some ⟨b0, o0, none⟩) 2 k0) none (some (.int .i64 1)) none).run Tryz.prog W = .ok (.slice (cutA (some ⟨b0, o0, none⟩) 0 1 k0) 1 k0) W := fun W => run_cutAt_to (P := Tryz.prog) Tryz.underlying22 int_size (some ⟨b0, o0, none⟩) (n := 2) (c := k0) (h := 1) (by omega) W
    have f2 : ∀ W, (Instr.sliceAt 22 (.slice (some ⟨b1, o1, none⟩) 1 k1) (some (.int .i64 1)) none none).run Tryz.prog W = .ok (.slice (cutA (some ⟨b1, o1, none⟩) 1 1 k1) 0 (k1 - 1)) W := fun W => run_cutAt_from (P := Tryz.prog) Tryz.underlying22 int_size (some ⟨b1, o1, none⟩) (n := 1) (c := k1) (k := 1) (by omega) W
    have hA := cutA_zero (some ⟨b0, o0, none⟩) 1 k0 (.inr ⟨b0, o0, rfl⟩)
    obtain ⟨C1, hC1⟩ : ∃ C1, C1 = cutA (some ⟨b1, o1, none⟩) 1 1 k1 := ⟨_, rfl⟩
    rw [← hC1] at f2
    rw [hA] at f1
    have RA := Lib.hid (show Rd w2 w2.heap.size (some ⟨b0, o0, none⟩) (([p] : List Int).map VI) from by
      have := HR0.out.take 1
      simpa using this)
    have RB := Lib.hid (show Rd w2 w2.heap.size C1 (([] : List Int).map VI) from by
      rw [hC1]
      have := HR1.out.cut (k := 1) (c := k1) (by simp; omega)
      simpa using this)
    have hnC := rd_nil_len RB.out
    have HX2 := Lib.hid (show ∀ k, X k → k < w2.heap.size from HXX.out)
    clear hpq d0 d1 hA hC1
    clear hw2 hb2 hE
    go_enter Tryz.func52, Tryz.ntmps52
    go_wp2_with fail
    rw [← HW2.out]
    go_quiet (fail)
    go_wp2_with fail
    obtain ⟨w3, hw3⟩ : ∃ w3, w3 = w2.drewN nq := ⟨_, rfl⟩
    rw [← hw3]
    have S0 := Lib.hid (show w2.heap.size ≤ w3.drew.heap.size ∧ w3.drew.cell? ⟨b, o, none⟩ = some (.slice (some ⟨b0, o0, none⟩) 2 k0) ∧ w3.drew.cell? ⟨b, o + 1, none⟩ = some (.slice (some ⟨b1, o1, none⟩) 1 k1) ∧ Below w2.heap.size w2 w3.drew from by rw [hw3]; exact ⟨Nat.le_refl _, c0, c1, (below_drewN (Below.refl _ _) _).drew⟩)
    have HBS := Lib.hid hb
    clear hw3 c0 c1 cu0 cu1 e0 e2
    go_region_held3 (fun w' => w2.heap.size ≤ w'.heap.size ∧ w'.cell? ⟨b, o, none⟩ = some (.slice (some ⟨b0, o0, none⟩) 2 k0) ∧ w'.cell? ⟨b, o + 1, none⟩ = some (.slice (some ⟨b1, o1, none⟩) 1 k1) ∧ Below w2.heap.size w2 w')
      (first | with_reducible exact S0.out | assumption | exact sh_keep HBS.out (by assumption) (by assumption) | exact sh_alloc HBS.out (by assumption) _)
      (first
        | (refine appV_step rfl (.tmp 95) (.tmp 101) rfl w2.heap.size _ 0 [] 0 rfl rfl (Own.made _ _ (And.left (by assumption))) (some ⟨b0, o0, none⟩) 1 k0 w2.heap.size ([p] : List Int) rfl rfl (RA.out.below (And.right (And.right (And.right (by assumption))))) (fun h => by cases h) (by omega) (And.left (by assumption)) ?_; intro A3 k3 w4 ho4 hb4)
        | (refine appV_step rfl (.tmp 102) (.tmp 106) rfl w2.heap.size A3 k3 ([] ++ ([p] : List Int)) 1 rfl rfl ho4 C1 0 (k1 - 1) w2.heap.size ([] : List Int) rfl rfl (RB.out.below (And.right (And.right (And.right (by assumption))))) hnC (by omega) (And.left (by assumption)) ?_; intro A5 k5 w5 ho5 hb5))
    all_goals
      go_wp2
      go_ret2
      have hS : w2.heap.size ≤ w5.heap.size ∧ w5.cell? ⟨b, o, none⟩ = some (.slice (some ⟨b0, o0, none⟩) 2 k0) ∧ w5.cell? ⟨b, o + 1, none⟩ = some (.slice (some ⟨b1, o1, none⟩) 1 k1) ∧ Below w2.heap.size w2 w5 := by assumption
      exact ⟨_, by rw [HQ.out]; rfl, by rw [HQ.out]; exact ShV.of_own ho5 HX2.out rfl (by simp), HB2.out.trans (hS.2.2.2.mono HB2.out.size)⟩
  · have t1 : (p2 == q) = false := by rw [beq_eq_false_iff_ne]; exact hpq
    have t2 : (p2 != q) = true := by unfold bne; rw [t1]; rfl
    have HQ := Lib.hid (show shapeOf 7 num [[p, p2], [q]] = ([], false) from by show matP _ _ = _; unfold matP; rw [if_pos (by simp; exact hpq)])
    clear hpq d0 d1
    clear hw2 hb2 hE
    go_enter Tryz.func52, Tryz.ntmps52
    go_wp2_with fail
    rw [← HW2.out]
    go_quiet (fail)
    go_wp2
    go_ret2
    exact ⟨_, by rw [HQ.out]; rfl, by rw [HQ.out]; exact ShV.nil _ _, below_drewN HB2.out _⟩
set_option maxRecDepth 100000 in
set_option maxHeartbeats 4000000 in
theorem rshape_7_22 (X : Nat → Prop) (nm : ByteArray) (num : Nat) (av : Value) (pos : Int) (p p2 q q2 : Int) (XA : Option Addr) (xc : Nat) (w : World) (hX : ∀ k, X k → k < w.heap.size) (hL : ShL X w XA [[p, p2], [q, q2]]) :
    Calls Tryz.prog 52 #[.agg #[.int .i64 7, .string nm, .int .u64 (num : Int), av, .int .i64 pos], .slice XA 2 xc] w fun e w' => ∃ v, e = .returned (.tuple #[v, .bool (shapeOf 7 num [[p, p2], [q, q2]]).2]) ∧ ShV X w' v (shapeOf 7 num [[p, p2], [q, q2]]).1 ∧ Below w.heap.size w w' := by
  obtain ⟨w2, hw2⟩ : ∃ w2, w2 = w.alloc (.cells #[.int .i64 7, .string nm, .int .u64 (num : Int), av, .int .i64 pos] 41) := ⟨_, rfl⟩
  have hb2 : Below w.heap.size w w2 := by rw [hw2]; exact (Below.refl _ _).alloc (Nat.le_refl _) _
  have hE : w2.heap[w.heap.size]? = some (.cells #[.int .i64 7, .string nm, .int .u64 (num : Int), av, .int .i64 pos] 41 (0, 0)) := by rw [hw2]; exact heap_alloc_new w _
  have HW2 := Lib.hid hw2
  have HB2 := Lib.hid hb2
  have HXX := Lib.hid (fun k hk => Nat.lt_of_lt_of_le (hX k hk) hb2.size)
  have e0 := cell_of_row _ _ 0 _ _ _ hE
  have e2 := cell_of_row _ _ 2 _ _ _ hE
  obtain ⟨b, o, rfl, hb, hc⟩ := (hL.keep hb2).cells (by simp)
  obtain ⟨v0, c0, s0⟩ := hc 0 [p, p2] rfl
  have HS0 := Lib.hid s0
  obtain ⟨A0, k0, rfl, p0, pp0, l0, r0⟩ := s0
  obtain ⟨v1, c1, s1⟩ := hc 1 [q, q2] rfl
  have HS1 := Lib.hid s1
  obtain ⟨A1, k1, rfl, p1, pp1, l1, r1⟩ := s1
  have c0 : w2.cell? ⟨b, o, none⟩ = _ := c0
  obtain ⟨n0, hn0⟩ : ∃ n, n = [p, p2].length := ⟨_, rfl⟩
  have HR0 := Lib.hid r0.rd
  obtain ⟨n1, hn1⟩ : ∃ n, n = [q, q2].length := ⟨_, rfl⟩
  have HR1 := Lib.hid r1.rd
  rw [← hn0] at c0 p0 l0 HS0
  have HN0 := Lib.hid hn0
  rw [← hn1] at c1 p1 l1 HS1
  have HN1 := Lib.hid hn1
  have cu0 := c0
  rw [hw2] at cu0
  have cu1 := c1
  rw [hw2] at cu1
  have HC := Lib.hid hc
  clear hc hL hX r0 r1
  obtain ⟨b0, o0, rfl, _, d0⟩ := rd_at' HR0.out (by simp)
  obtain ⟨b1, o1, rfl, _, d1⟩ := rd_at' HR1.out (by simp)
  have g0 : w2.cell? ⟨b0, o0 + 1, none⟩ = some (.int .i64 p2) := d0 1 _ rfl
  have g1 : w2.cell? ⟨b1, o1, none⟩ = some (.int .i64 q) := d1 0 _ rfl
  have w1 : IntKind.i64.wrap 1 = 1 := rfl
  have w0 : IntKind.i64.wrap 0 = 0 := rfl
  obtain rfl : n0 = 2 := hn0
  obtain rfl : n1 = 2 := hn1
  by_cases hpq : p2 = q
  · have t1 : (p2 == q) = true := by rw [beq_iff_eq]; exact hpq
    have t2 : (p2 != q) = false := by unfold bne; rw [t1]; rfl
    have HQ := Lib.hid (show shapeOf 7 num [[p, p2], [q, q2]] = ([p, q2], true) from by show matP _ _ = _; unfold matP; rw [if_neg (by simp; exact hpq)]; rfl)
    have f1 : ∀ W, (Instr.sliceAt 22 (.slice (some ⟨b0, o0, none⟩) 2 k0) none (some (.int .i64 1)) none).run Tryz.prog W = .ok (.slice (cutA (some ⟨b0, o0, none⟩) 0 1 k0) 1 k0) W := fun W => run_cutAt_to (P := Tryz.prog) Tryz.underlying22 int_size (some ⟨b0, o0, none⟩) (n := 2) (c := k0) (h := 1) (by omega) W
    have f2 : ∀ W, (Instr.sliceAt 22 (.slice (some ⟨b1, o1, none⟩) 2 k1) (some (.int .i64 1)) none none).run Tryz.prog W = .ok (.slice (cutA (some ⟨b1, o1, none⟩) 1 1 k1) 1 (k1 - 1)) W := fun W => run_cutAt_from (P := Tryz.prog) Tryz.underlying22 int_size (some ⟨b1, o1, none⟩) (n := 2) (c := k1) (k := 1) (by omega) W
    have hA := cutA_zero (some ⟨b0, o0, none⟩) 1 k0 (.inr ⟨b0, o0, rfl⟩)
    obtain ⟨C1, hC1⟩ : ∃ C1, C1 = cutA (some ⟨b1, o1, none⟩) 1 1 k1 := ⟨_, rfl⟩
    rw [← hC1] at f2
    rw [hA] at f1
    have RA := Lib.hid (show Rd w2 w2.heap.size (some ⟨b0, o0, none⟩) (([p] : List Int).map VI) from by
      have := HR0.out.take 1
      simpa using this)
    have RB := Lib.hid (show Rd w2 w2.heap.size C1 (([q2] : List Int).map VI) from by
      rw [hC1]
      have := HR1.out.cut (k := 1) (c := k1) (by simp; omega)
      simpa using this)
    have hnC := rd_nil_len RB.out
    have HX2 := Lib.hid (show ∀ k, X k → k < w2.heap.size from HXX.out)
    clear hpq d0 d1 hA hC1
    clear hw2 hb2 hE
    go_enter Tryz.func52, Tryz.ntmps52
    go_wp2_with fail
    rw [← HW2.out]
    go_quiet (fail)
    go_wp2_with fail
    obtain ⟨w3, hw3⟩ : ∃ w3, w3 = w2.drewN nq := ⟨_, rfl⟩
    rw [← hw3]
    have S0 := Lib.hid (show w2.heap.size ≤ w3.drew.heap.size ∧ w3.drew.cell? ⟨b, o, none⟩ = some (.slice (some ⟨b0, o0, none⟩) 2 k0) ∧ w3.drew.cell? ⟨b, o + 1, none⟩ = some (.slice (some ⟨b1, o1, none⟩) 2 k1) ∧ Below w2.heap.size w2 w3.drew from by rw [hw3]; exact ⟨Nat.le_refl _, c0, c1, (below_drewN (Below.refl _ _) _).drew⟩)
    have HBS := Lib.hid hb
    clear hw3 c0 c1 cu0 cu1 e0 e2
    go_region_held3 (fun w' => w2.heap.size ≤ w'.heap.size ∧ w'.cell? ⟨b, o, none⟩ = some (.slice (some ⟨b0, o0, none⟩) 2 k0) ∧ w'.cell? ⟨b, o + 1, none⟩ = some (.slice (some ⟨b1, o1, none⟩) 2 k1) ∧ Below w2.heap.size w2 w')
      (first | with_reducible exact S0.out | assumption | exact sh_keep HBS.out (by assumption) (by assumption) | exact sh_alloc HBS.out (by assumption) _)
      (first
        | (refine appV_step rfl (.tmp 95) (.tmp 101) rfl w2.heap.size _ 0 [] 0 rfl rfl (Own.made _ _ (And.left (by assumption))) (some ⟨b0, o0, none⟩) 1 k0 w2.heap.size ([p] : List Int) rfl rfl (RA.out.below (And.right (And.right (And.right (by assumption))))) (fun h => by cases h) (by omega) (And.left (by assumption)) ?_; intro A3 k3 w4 ho4 hb4)
        | (refine appV_step rfl (.tmp 102) (.tmp 106) rfl w2.heap.size A3 k3 ([] ++ ([p] : List Int)) 1 rfl rfl ho4 C1 1 (k1 - 1) w2.heap.size ([q2] : List Int) rfl rfl (RB.out.below (And.right (And.right (And.right (by assumption))))) hnC (by omega) (And.left (by assumption)) ?_; intro A5 k5 w5 ho5 hb5))
    all_goals
      go_wp2
      go_ret2
      have hS : w2.heap.size ≤ w5.heap.size ∧ w5.cell? ⟨b, o, none⟩ = some (.slice (some ⟨b0, o0, none⟩) 2 k0) ∧ w5.cell? ⟨b, o + 1, none⟩ = some (.slice (some ⟨b1, o1, none⟩) 2 k1) ∧ Below w2.heap.size w2 w5 := by assumption
      exact ⟨_, by rw [HQ.out]; rfl, by rw [HQ.out]; exact ShV.of_own ho5 HX2.out rfl (by simp), HB2.out.trans (hS.2.2.2.mono HB2.out.size)⟩
  · have t1 : (p2 == q) = false := by rw [beq_eq_false_iff_ne]; exact hpq
    have t2 : (p2 != q) = true := by unfold bne; rw [t1]; rfl
    have HQ := Lib.hid (show shapeOf 7 num [[p, p2], [q, q2]] = ([], false) from by show matP _ _ = _; unfold matP; rw [if_pos (by simp; exact hpq)])
    clear hpq d0 d1
    clear hw2 hb2 hE
    go_enter Tryz.func52, Tryz.ntmps52
    go_wp2_with fail
    rw [← HW2.out]
    go_quiet (fail)
    go_wp2
    go_ret2
    exact ⟨_, by rw [HQ.out]; rfl, by rw [HQ.out]; exact ShV.nil _ _, below_drewN HB2.out _⟩
set_option maxRecDepth 100000 in
set_option maxHeartbeats 4000000 in
theorem rshape_7_none (X : Nat → Prop) (nm : ByteArray) (num : Nat) (av : Value) (pos : Int) (x0 x1 : List Int) (XA : Option Addr) (xc : Nat) (w : World) (h00 : x0.length = 0 ∨ x1.length = 0) (hX : ∀ k, X k → k < w.heap.size) (hL : ShL X w XA [x0, x1]) :
    Calls Tryz.prog 52 #[.agg #[.int .i64 7, .string nm, .int .u64 (num : Int), av, .int .i64 pos], .slice XA 2 xc] w fun e w' => ∃ v, e = .returned (.tuple #[v, .bool (shapeOf 7 num [x0, x1]).2]) ∧ ShV X w' v (shapeOf 7 num [x0, x1]).1 ∧ Below w.heap.size w w' := by
  obtain ⟨w2, hw2⟩ : ∃ w2, w2 = w.alloc (.cells #[.int .i64 7, .string nm, .int .u64 (num : Int), av, .int .i64 pos] 41) := ⟨_, rfl⟩
  have hb2 : Below w.heap.size w w2 := by rw [hw2]; exact (Below.refl _ _).alloc (Nat.le_refl _) _
  have hE : w2.heap[w.heap.size]? = some (.cells #[.int .i64 7, .string nm, .int .u64 (num : Int), av, .int .i64 pos] 41 (0, 0)) := by rw [hw2]; exact heap_alloc_new w _
  have HW2 := Lib.hid hw2
  have HB2 := Lib.hid hb2
  have HXX := Lib.hid (fun k hk => Nat.lt_of_lt_of_le (hX k hk) hb2.size)
  have e0 := cell_of_row _ _ 0 _ _ _ hE
  have e2 := cell_of_row _ _ 2 _ _ _ hE
  obtain ⟨b, o, rfl, hb, hc⟩ := (hL.keep hb2).cells (by simp)
  obtain ⟨v0, c0, s0⟩ := hc 0 x0 rfl
  have HS0 := Lib.hid s0
  obtain ⟨A0, k0, rfl, p0, pp0, l0, r0⟩ := s0
  obtain ⟨v1, c1, s1⟩ := hc 1 x1 rfl
  have HS1 := Lib.hid s1
  obtain ⟨A1, k1, rfl, p1, pp1, l1, r1⟩ := s1
  have c0 : w2.cell? ⟨b, o, none⟩ = _ := c0
  obtain ⟨n0, hn0⟩ : ∃ n, n = x0.length := ⟨_, rfl⟩
  have HR0 := Lib.hid r0.rd
  obtain ⟨n1, hn1⟩ : ∃ n, n = x1.length := ⟨_, rfl⟩
  have HR1 := Lib.hid r1.rd
  rw [← hn0] at c0 p0 l0 HS0
  have HN0 := Lib.hid hn0
  rw [← hn1] at c1 p1 l1 HS1
  have HN1 := Lib.hid hn1
  have cu0 := c0
  rw [hw2] at cu0
  have cu1 := c1
  rw [hw2] at cu1
  have HC := Lib.hid hc
  clear hc hL hX r0 r1
  have HQ := Lib.hid (show shapeOf 7 num [x0, x1] = ([], false) from by
    show matP _ _ = _
    unfold matP
    rw [if_pos (by rcases h00 with h | h; exact .inl h; exact .inr (.inl h))])
  rw [← hn0, ← hn1] at h00
  by_cases h0 : n0 = 0
  · subst h0
    clear h00
    clear hw2 hb2 hE hn0 hn1
    go_enter Tryz.func52, Tryz.ntmps52
    go_wp2_with fail
    rw [← HW2.out]
    go_quiet (fail)
    go_wp2
    go_ret2
    exact ⟨_, by rw [HQ.out]; rfl, by rw [HQ.out]; exact ShV.nil _ _, below_drewN HB2.out _⟩
  · have q0 : ((n0 : Int) == 0) = false := by rw [beq_eq_false_iff_ne]; omega
    obtain rfl : n1 = 0 := by omega
    clear h00 h0
    clear hw2 hb2 hE hn0 hn1
    go_enter Tryz.func52, Tryz.ntmps52
    go_wp2_with fail
    rw [← HW2.out]
    go_quiet (fail)
    go_wp2
    go_ret2
    exact ⟨_, by rw [HQ.out]; rfl, by rw [HQ.out]; exact ShV.nil _ _, below_drewN HB2.out _⟩
theorem rshape_7 (X : Nat → Prop) (nm : ByteArray) (num : Nat) (av : Value) (pos : Int) (x0 x1 : List Int) (XA : Option Addr) (xc : Nat) (w : World) (hX : ∀ k, X k → k < w.heap.size) (hL : ShL X w XA [x0, x1]) :
    Calls Tryz.prog 52 #[.agg #[.int .i64 7, .string nm, .int .u64 (num : Int), av, .int .i64 pos], .slice XA 2 xc] w fun e w' => ∃ v, e = .returned (.tuple #[v, .bool (shapeOf 7 num [x0, x1]).2]) ∧ ShV X w' v (shapeOf 7 num [x0, x1]).1 ∧ Below w.heap.size w w' := by
  by_cases h0 : x0.length = 0 ∨ x1.length = 0
  · exact rshape_7_none X nm num av pos x0 x1 XA xc w h0 hX hL
  · have hl : ∀ (l : List Int), l ∈ [x0, x1] → l.length ≤ 2 := fun l hl => by
      obtain ⟨b, o, _, _, hc⟩ := hL.cells (by simp)
      obtain ⟨j, hj, he⟩ := List.getElem_of_mem hl
      obtain ⟨v, _, A, c, _, _, _, h2, _⟩ := hc j l (by rw [List.getElem?_eq_getElem hj, he])
      exact h2
    have l0 := hl x0 (by simp)
    have l1 := hl x1 (by simp)
    clear hl
    match x0, x1, l0, l1, h0, hL with
    | [p], [q], _, _, _, hL => exact rshape_7_11 X nm num av pos p q XA xc w hX hL
    | [p], [q, q2], _, _, _, hL => exact rshape_7_12 X nm num av pos p q q2 XA xc w hX hL
    | [p, p2], [q], _, _, _, hL => exact rshape_7_21 X nm num av pos p p2 q XA xc w hX hL
    | [p, p2], [q, q2], _, _, _, hL => exact rshape_7_22 X nm num av pos p p2 q q2 XA xc w hX hL
    | [], _, _, _, h0, _ => exact absurd (.inl rfl) h0
    | _, [], _, _, h0, _ => exact absurd (.inr rfl) h0
    | _ :: _ :: _ :: _, _, l0, _, _, _ => simp at l0
    | _, _ :: _ :: _ :: _, _, l1, _, _ => simp at l1
theorem rshape_any (X : Nat → Prop) (k : Int) (nm : ByteArray) (num : Nat) (av : Value) (pos : Int) (xs : List (List Int)) (XA : Option Addr) (n xc : Nat) (w : World) (hn : n = xs.length) (hk2 : k ≠ 2) (hm : madeP k = (xs.length : Int)) (hX : ∀ k, X k → k < w.heap.size) (hL : ShL X w XA xs) :
    Calls Tryz.prog 52 #[.agg #[.int .i64 k, .string nm, .int .u64 (num : Int), av, .int .i64 pos], .slice XA n xc] w fun e w' => ∃ v, e = .returned (.tuple #[v, .bool (shapeOf k num xs).2]) ∧ ShV X w' v (shapeOf k num xs).1 ∧ Below w.heap.size w w' := by
  subst hn
  have h1 : ∀ {ys : List (List Int)}, (1 : Int) = (ys.length : Int) → ∃ x, ys = [x] := fun {ys} h => by
    match ys, h with
    | [x], _ => exact ⟨x, rfl⟩
    | [], h => simp at h
    | _ :: _ :: _, h => simp at h; omega
  have h2 : ∀ {ys : List (List Int)}, (2 : Int) = (ys.length : Int) → ∃ x y, ys = [x, y] := fun {ys} h => by
    match ys, h with
    | [x, y], _ => exact ⟨x, y, rfl⟩
    | [], h => simp at h
    | [_], h => simp at h
    | _ :: _ :: _ :: _, h => simp at h; omega
  have h3 : ∀ {ys : List (List Int)}, (3 : Int) = (ys.length : Int) → ∃ x y z, ys = [x, y, z] := fun {ys} h => by
    match ys, h with
    | [x, y, z], _ => exact ⟨x, y, z, rfl⟩
    | [], h => simp at h
    | [_], h => simp at h
    | [_, _], h => simp at h
    | _ :: _ :: _ :: _ :: _, h => simp at h; omega
  have h0 : ∀ {ys : List (List Int)}, (0 : Int) = (ys.length : Int) → ys = [] := fun {ys} h => by
    match ys, h with
    | [], _ => rfl
    | _ :: _, h => simp at h; omega
  rcases made_cases k with rfl | rfl | rfl | rfl | rfl | rfl | rfl | rfl | rfl | rfl | rfl | rfl | rfl | rfl | ⟨q1, q2, q3, q4, q5, q6, q7, q8, q9, q10, q11, q12, q13, q14⟩
  · obtain rfl := h0 hm
    exact rshape_1 X nm num av pos XA xc w hX hL
  · exact absurd rfl hk2
  · obtain ⟨x0, rfl⟩ := h1 hm
    exact rshape_3 X nm num av pos x0 XA xc w hX hL
  · obtain ⟨x0, x1, rfl⟩ := h2 hm
    exact rshape_4 X nm num av pos x0 x1 XA xc w hX hL
  · obtain ⟨x0, x1, rfl⟩ := h2 hm
    exact rshape_5 X nm num av pos x0 x1 XA xc w hX hL
  · obtain ⟨x0, x1, rfl⟩ := h2 hm
    exact rshape_6 X nm num av pos x0 x1 XA xc w hX hL
  · obtain ⟨x0, x1, rfl⟩ := h2 hm
    exact rshape_7 X nm num av pos x0 x1 XA xc w hX hL
  · obtain ⟨x0, x1, rfl⟩ := h2 hm
    exact rshape_8 X nm num av pos x0 x1 XA xc w hX hL
  · obtain ⟨x0, rfl⟩ := h1 hm
    exact rshape_9 X nm num av pos x0 XA xc w hX hL
  · obtain ⟨x0, rfl⟩ := h1 hm
    exact rshape_10 X nm num av pos x0 XA xc w hX hL
  · obtain ⟨x0, rfl⟩ := h1 hm
    exact rshape_11 X nm num av pos x0 XA xc w hX hL
  · obtain ⟨x0, rfl⟩ := h1 hm
    exact rshape_12 X nm num av pos x0 XA xc w hX hL
  · obtain ⟨x0, x1, rfl⟩ := h2 hm
    exact rshape_13 X nm num av pos x0 x1 XA xc w hX hL
  · obtain ⟨x0, x1, x2, rfl⟩ := h3 hm
    exact rshape_14 X nm num av pos x0 x1 x2 XA xc w hX hL
  · exfalso
    have : madeP k = -1 := by
      unfold madeP
      rw [if_neg (by omega), if_neg (by omega), if_neg (by omega), if_neg q14]
    omega
end Go.Proofs.YthnkeejiocnflaaGreatDoor
