/-
  The reference's Same at two trees that read alike.
-/
import Derived.Test.YtghlnncfigkkaaaGreatDoorQTree
import Derived.Deep.DeepCutAuto
import Derived.RegionTactic
namespace Go.Proofs.YtghlnncfigkkaaaGreatDoor
set_option linter.unusedVariables false
set_option linter.unusedSimpArgs false
open Go.RowKit
def TwoS (w2 : World) (T : TypeId) (a b : Array Value) (s0 s1 : Value) (wx : World) : Prop := ∃ g h, s0 = .pointer (some ⟨g, 0, none⟩) ∧ s1 = .pointer (some ⟨h, 0, none⟩) ∧ wx.heap[g]? = some (.cells a T (0, 0)) ∧ wx.heap[h]? = some (.cells b T (0, 0)) ∧ Below w2.heap.size w2 wx
def EqSm (q : Bool) (x y : Sm) : Prop := x.kind = y.kind ∧ x.party = y.party ∧ x.name = y.name ∧ x.shape = y.shape ∧ x.expr = y.expr ∧ (q = true → x.pos = y.pos)
def EqEx (q : Bool) (x y : Ex) : Prop := x.kind = y.kind ∧ x.name = y.name ∧ x.num = y.num ∧ x.args = y.args ∧ (q = true → x.pos = y.pos)
def EqSs (q : Bool) (l l' : List Sm) : Prop := l.length = l'.length ∧ ∀ (i : Nat) (x y : Sm), l[i]? = some x → l'[i]? = some y → EqSm q x y
def EqEs (q : Bool) (l l' : List Ex) : Prop := l.length = l'.length ∧ ∀ (i : Nat) (x y : Ex), l[i]? = some x → l'[i]? = some y → EqEx q x y
theorem EqSs.refl (q : Bool) (l : List Sm) : EqSs q l l := ⟨rfl, fun i x y h h' => by
 rw [h] at h'
 injection h' with h'
 subst h'
 exact ⟨rfl, rfl, rfl, rfl, rfl, fun _ => rfl⟩⟩
theorem two_newS (w : World) (a b : Array Value) (T : TypeId) : ((w.alloc (.cells a T)).alloc (.cells b T)).drew.heap[w.heap.size]? = some (.cells a T (0, 0)) ∧
  ((w.alloc (.cells a T)).alloc (.cells b T)).drew.heap[w.heap.size + 1]? = some (.cells b T (0, 0)) ∧ Below w.heap.size w ((w.alloc (.cells a T)).alloc (.cells b T)).drew := by
 refine ⟨?_, ?_, (((Below.refl _ _).alloc (Nat.le_refl _) _).alloc (by simp) _).drew⟩
 ·show ((w.alloc (.cells a T)).alloc (.cells b T)).heap[w.heap.size]? = _
  rw [Below.heap_alloc _ _ _ (by simp)]
  exact heap_alloc_new w _
 ·have := heap_alloc_new (w.alloc (.cells a T)) (.cells b T)
  rwa [World.size_alloc] at this
set_option maxRecDepth 100000 in
set_option maxHeartbeats 4000000 in
theorem same_tree_true (SA SA' EA EA' : Option Addr) (ns ne sc sc' ec ec' : Nat) (ss ss' : List Sm) (es es' : List Ex) (w : World) (hns : ns = ss.length) (hne : ne = es.length) (hS : EqSs true ss ss') (hE : EqEs true es es')
  (hl : ns ≤ 9223372036854775807 ∧ ne ≤ 9223372036854775807) (hls : ∀ x ∈ ss, x.shape.length ≤ 9223372036854775807) (hle : ∀ x ∈ es, x.args.length ≤ 9223372036854775807) (h1 : RdS w w.heap.size SA ss) (h2 : RdS w w.heap.size SA' ss') (h3 : RdE w w.heap.size EA es) (h4 : RdE w w.heap.size EA' es') :
  Calls Tryz.prog 21 #[.agg #[.slice SA ns sc, .slice EA ne ec], .agg #[.slice SA' ns sc', .slice EA' ne ec'], .bool true] w fun e w' => e = .returned (.bool true) ∧ Below w.heap.size w w' := by
 obtain ⟨w2, hw2⟩ : ∃ w2, w2 = (w.alloc (.cells #[.slice SA ns sc, .slice EA ne ec] 26)).alloc (.cells #[.slice SA' ns sc', .slice EA' ne ec'] 26) := ⟨_, rfl⟩
 have hb2 : Below w.heap.size w w2 := by rw [hw2]; exact ((Below.refl _ _).alloc (Nat.le_refl _) _).alloc (by simp) _
 have hA : w2.heap[w.heap.size]? = some (.cells #[.slice SA ns sc, .slice EA ne ec] 26 (0, 0)) := by
  rw [hw2, Below.heap_alloc _ _ _ (by simp)]
  exact heap_alloc_new w _
 have hB : w2.heap[w.heap.size + 1]? = some (.cells #[.slice SA' ns sc', .slice EA' ne ec'] 26 (0, 0)) := by
  rw [hw2]
  have := heap_alloc_new (w.alloc (.cells #[.slice SA ns sc, .slice EA ne ec] 26)) (.cells #[.slice SA' ns sc', .slice EA' ne ec'] 26)
  rwa [World.size_alloc] at this
 have HW2 := Lib.hid hw2
 have HB2 := Lib.hid hb2
 have HA := Lib.hid (fun W (hW : Below w2.heap.size w2 W) => (hW.block _ (Array.getElem?_eq_some_iff.1 hA).1).trans hA)
 have HB := Lib.hid (fun W (hW : Below w2.heap.size w2 W) => (hW.block _ (Array.getElem?_eq_some_iff.1 hB).1).trans hB)
 have H1 := Lib.hid (h1.next hb2)
 have H2 := Lib.hid (h2.next hb2)
 have H3 := Lib.hid (h3.next hb2)
 have H4 := Lib.hid (h4.next hb2)
 have HNS := Lib.hid hns
 have HNE := Lib.hid hne
 have HS := Lib.hid hS
 have HE := Lib.hid hE
 have HLS := Lib.hid hls
 have HLE := Lib.hid hle
 obtain ⟨hl1, hl2⟩ := hl
 have z0 := cell_of_row _ _ 0 _ _ _ hA
 have z1 := cell_of_row _ _ 1 _ _ _ hA
 have y0 := cell_of_row _ _ 0 _ _ _ hB
 have y1 := cell_of_row _ _ 1 _ _ _ hB
 clear hw2 hb2 hA hB h1 h2 h3 h4 hns hne hS hE hls hle
 go_enter Tryz.func21, Tryz.ntmps21
 go_wp2
 rw [← HW2.out]
 go_wp2
 clear z0 z1 y0 y1
 go_loopw [32] (fun iv wr => IntsRel ns iv ∧ Below w2.heap.size w2 wr) (fun iv _ => ns - (intOf iv).toNat)
 case atStart => exact ⟨⟨0, by omega, rfl⟩, Below.refl _ _⟩
 case round =>
  obtain ⟨⟨i, hi, rfl⟩, hb⟩ := hrel
  have hA := HA.out _ hb
  have hB := HB.out _ hb
  have z0 := cell_of_row _ _ 0 _ _ _ hA
  have z1 := cell_of_row _ _ 1 _ _ _ hA
  have y0 := cell_of_row _ _ 0 _ _ _ hB
  have y1 := cell_of_row _ _ 1 _ _ _ hB
  by_cases hlt : i < ns
  ·have hx : ss[i]? = some (ss[i]'(by rw [← HNS.out]; exact hlt)) := List.getElem?_eq_getElem _
   obtain ⟨x, hxx⟩ : ∃ x, x = ss[i]'(by rw [← HNS.out]; exact hlt) := ⟨_, rfl⟩
   rw [← hxx] at hx
   have hy : ss'[i]? = some (ss'[i]'(by rw [← HS.out.1, ← HNS.out]; exact hlt)) := List.getElem?_eq_getElem _
   obtain ⟨y, hyy⟩ : ∃ y, y = ss'[i]'(by rw [← HS.out.1, ← HNS.out]; exact hlt) := ⟨_, rfl⟩
   rw [← hyy] at hy
   obtain ⟨d0, d1, d2, d3, d4, d5⟩ := HS.out.2 i x y hx hy
   obtain ⟨xk, xp, xn, xs, xe, xq⟩ := x
   obtain ⟨yk, yp, yn, ys, ye, yq⟩ := y
   dsimp only at d0 d1 d2 d3 d4 d5
   subst d0 d1 d2 d3 d4
   have hpq := d5 rfl
   subst hpq
   obtain ⟨b, o, rfl, hbl, c0, c1, c2, ⟨A, c, c3, c3r⟩, c4, c5⟩ := (H1.out.next hb).at_ hx
   obtain ⟨b', o', rfl, hbl', c0', c1', c2', ⟨A', c', c3', c3r'⟩, c4', c5'⟩ := (H2.out.next hb).at_ hy
   have HXL := Lib.hid (HLS.out _ (List.mem_of_getElem? hx))
   dsimp only at c0 c1 c2 c3 c3r c4 c0' c1' c2' c3' c3r' c4' HXL c5 c5'
   have i0 : (0 : Int) ≤ (i : Int) := by omega
   have i1 : (i : Int) < (ns : Int) := by omega
   have hs1 : w.heap.size + 1 < wr.heap.size := by have := (Array.getElem?_eq_some_iff.1 hB).1; omega
   have hs0 : w.heap.size < wr.heap.size := by omega
   have HB3 := Lib.hid hb
   have HR := Lib.hid c3r
   have HR' := Lib.hid c3r'
   clear hb hx hxx hy hyy hA hB c3r c3r'
   go_wp2_with fail
   go_cut [8, 9] (fun s8 s9 wx => TwoS wr 93 #[.int .i64 ((xk : Nat) : Int), .int .i64 ((xp : Nat) : Int), .string xn, .slice A xs.length c, .int .i64 ((xe : Nat) : Int), .int .i64 ((xq : Nat) : Int)] #[.int .i64 ((xk : Nat) : Int), .int .i64 ((xp : Nat) : Int), .string xn, .slice A' xs.length c', .int .i64 ((xe : Nat) : Int), .int .i64 ((xq : Nat) : Int)] s8 s9 wx)
   case first =>
    go_region
    all_goals
     go_wp2_with fail
     go_meet
     first
      | (obtain ⟨t0, t1, tb⟩ := two_newS wr #[.int .i64 ((xk : Nat) : Int), .int .i64 ((xp : Nat) : Int), .string xn, .slice A xs.length c, .int .i64 ((xe : Nat) : Int), .int .i64 ((xq : Nat) : Int)] #[.int .i64 ((xk : Nat) : Int), .int .i64 ((xp : Nat) : Int), .string xn, .slice A' xs.length c', .int .i64 ((xe : Nat) : Int), .int .i64 ((xq : Nat) : Int)] 93; exact ⟨_, _, rfl, rfl, t0, t1, tb⟩)
      | (obtain ⟨t0, t1, tb⟩ := two_newS wr #[.int .i64 ((xk : Nat) : Int), .int .i64 ((xp : Nat) : Int), .string xn, .slice A' xs.length c', .int .i64 ((xe : Nat) : Int), .int .i64 ((xq : Nat) : Int)] #[.int .i64 ((xk : Nat) : Int), .int .i64 ((xp : Nat) : Int), .string xn, .slice A xs.length c, .int .i64 ((xe : Nat) : Int), .int .i64 ((xq : Nat) : Int)] 93; exact ⟨_, _, rfl, rfl, t1, t0, tb⟩)
   case rest =>
    obtain ⟨g, h, rfl, rfl, t0, t1, tb⟩ := hcut
    obtain ⟨w5, hw5⟩ : ∃ w5, w5 = wc := ⟨_, rfl⟩
    rw [← hw5]
    rw [← hw5] at t0 t1 tb
    clear hw5 c0 c1 c2 c3 c4 c0' c1' c2' c3' c4' c5 c5' z0 z1 y0 y1
    have p0 := cell_of_row _ _ 0 _ _ _ t0
    have r0 := cell_of_row _ _ 0 _ _ _ t1
    have p1 := cell_of_row _ _ 1 _ _ _ t0
    have r1 := cell_of_row _ _ 1 _ _ _ t1
    have p2 := cell_of_row _ _ 2 _ _ _ t0
    have r2 := cell_of_row _ _ 2 _ _ _ t1
    have p3 := cell_of_row _ _ 3 _ _ _ t0
    have r3 := cell_of_row _ _ 3 _ _ _ t1
    have p4 := cell_of_row _ _ 4 _ _ _ t0
    have r4 := cell_of_row _ _ 4 _ _ _ t1
    have p5 := cell_of_row _ _ 5 _ _ _ t0
    have r5 := cell_of_row _ _ 5 _ _ _ t1
    have HB5 := Lib.hid (bnext HB3.out tb)
    have HR5 := Lib.hid (HR.out.next tb)
    have HR5' := Lib.hid (HR'.out.next tb)
    clear t0 t1 tb
    go_wp2_with fail
    refine (ints_any A A' _ c c' _ w5 rfl HXL.out HR5.out HR5'.out).mono ?_
    rintro e w6 ⟨rfl, b6⟩
    have HB6 := Lib.hid (bnext HB5.out b6)
    have p0 := (b6.cell (World.block_lt_of_cell? w5 _ p0)).trans p0
    have r0 := (b6.cell (World.block_lt_of_cell? w5 _ r0)).trans r0
    have p1 := (b6.cell (World.block_lt_of_cell? w5 _ p1)).trans p1
    have r1 := (b6.cell (World.block_lt_of_cell? w5 _ r1)).trans r1
    have p2 := (b6.cell (World.block_lt_of_cell? w5 _ p2)).trans p2
    have r2 := (b6.cell (World.block_lt_of_cell? w5 _ r2)).trans r2
    have p3 := (b6.cell (World.block_lt_of_cell? w5 _ p3)).trans p3
    have r3 := (b6.cell (World.block_lt_of_cell? w5 _ r3)).trans r3
    have p4 := (b6.cell (World.block_lt_of_cell? w5 _ p4)).trans p4
    have r4 := (b6.cell (World.block_lt_of_cell? w5 _ r4)).trans r4
    have p5 := (b6.cell (World.block_lt_of_cell? w5 _ p5)).trans p5
    have r5 := (b6.cell (World.block_lt_of_cell? w5 _ r5)).trans r5
    clear b6
    go_wp2
    go_roundw
    case rel => exact ⟨⟨i + 1, by omega, rfl⟩, HB6.out⟩
    case measure => (simp [intOf]; omega)
  ·obtain rfl : i = ns := by omega
   have HB3 := Lib.hid hb
   clear hb hA hB
   go_wp2
   clear z0 z1 y0 y1
   go_loopw [93] (fun iv wr => IntsRel ne iv ∧ Below w2.heap.size w2 wr) (fun iv _ => ne - (intOf iv).toNat)
   case atStart => exact ⟨⟨0, by omega, rfl⟩, HB3.out⟩
   case round =>
    obtain ⟨⟨i, hi, rfl⟩, hb⟩ := hrel
    have hA := HA.out _ hb
    have hB := HB.out _ hb
    have z0 := cell_of_row _ _ 0 _ _ _ hA
    have z1 := cell_of_row _ _ 1 _ _ _ hA
    have y0 := cell_of_row _ _ 0 _ _ _ hB
    have y1 := cell_of_row _ _ 1 _ _ _ hB
    by_cases hlt : i < ne
    ·have hx : es[i]? = some (es[i]'(by rw [← HNE.out]; exact hlt)) := List.getElem?_eq_getElem _
     obtain ⟨x, hxx⟩ : ∃ x, x = es[i]'(by rw [← HNE.out]; exact hlt) := ⟨_, rfl⟩
     rw [← hxx] at hx
     have hy : es'[i]? = some (es'[i]'(by rw [← HE.out.1, ← HNE.out]; exact hlt)) := List.getElem?_eq_getElem _
     obtain ⟨y, hyy⟩ : ∃ y, y = es'[i]'(by rw [← HE.out.1, ← HNE.out]; exact hlt) := ⟨_, rfl⟩
     rw [← hyy] at hy
     obtain ⟨d0, d1, d2, d3, d4⟩ := HE.out.2 i x y hx hy
     obtain ⟨xk, xn, xp, xs, xq⟩ := x
     obtain ⟨yk, yn, yp, ys, yq⟩ := y
     dsimp only at d0 d1 d2 d3 d4
     subst d0 d1 d2 d3
     have hpq := d4 rfl
     subst hpq
     obtain ⟨b, o, rfl, hbl, c0, c1, c2, ⟨A, c, c3, c3r⟩, c4⟩ := (H3.out.next hb).at_ hx
     obtain ⟨b', o', rfl, hbl', c0', c1', c2', ⟨A', c', c3', c3r'⟩, c4'⟩ := (H4.out.next hb).at_ hy
     have HXL := Lib.hid (HLE.out _ (List.mem_of_getElem? hx))
     dsimp only at c0 c1 c2 c3 c3r c4 c0' c1' c2' c3' c3r' c4' HXL
     have i0 : (0 : Int) ≤ (i : Int) := by omega
     have i1 : (i : Int) < (ne : Int) := by omega
     have hs1 : w.heap.size + 1 < wr.heap.size := by have := (Array.getElem?_eq_some_iff.1 hB).1; omega
     have hs0 : w.heap.size < wr.heap.size := by omega
     have HB3 := Lib.hid hb
     have HR := Lib.hid c3r
     have HR' := Lib.hid c3r'
     clear hb hx hxx hy hyy hA hB c3r c3r'
     go_wp2_with fail
     go_cut [11, 12] (fun s8 s9 wx => TwoS wr 90 #[.int .i64 ((xk : Nat) : Int), .string xn, .int .u64 ((xp : Nat) : Int), .slice A xs.length c, .int .i64 ((xq : Nat) : Int)] #[.int .i64 ((xk : Nat) : Int), .string xn, .int .u64 ((xp : Nat) : Int), .slice A' xs.length c', .int .i64 ((xq : Nat) : Int)] s8 s9 wx)
     case first =>
      go_region
      all_goals
       go_wp2_with fail
       go_meet
       first
        | (obtain ⟨t0, t1, tb⟩ := two_newS wr #[.int .i64 ((xk : Nat) : Int), .string xn, .int .u64 ((xp : Nat) : Int), .slice A xs.length c, .int .i64 ((xq : Nat) : Int)] #[.int .i64 ((xk : Nat) : Int), .string xn, .int .u64 ((xp : Nat) : Int), .slice A' xs.length c', .int .i64 ((xq : Nat) : Int)] 90; exact ⟨_, _, rfl, rfl, t0, t1, tb⟩)
        | (obtain ⟨t0, t1, tb⟩ := two_newS wr #[.int .i64 ((xk : Nat) : Int), .string xn, .int .u64 ((xp : Nat) : Int), .slice A' xs.length c', .int .i64 ((xq : Nat) : Int)] #[.int .i64 ((xk : Nat) : Int), .string xn, .int .u64 ((xp : Nat) : Int), .slice A xs.length c, .int .i64 ((xq : Nat) : Int)] 90; exact ⟨_, _, rfl, rfl, t1, t0, tb⟩)
     case rest =>
      obtain ⟨g, h, rfl, rfl, t0, t1, tb⟩ := hcut
      obtain ⟨w5, hw5⟩ : ∃ w5, w5 = wc := ⟨_, rfl⟩
      rw [← hw5]
      rw [← hw5] at t0 t1 tb
      clear hw5 c0 c1 c2 c3 c4 c0' c1' c2' c3' c4' z0 z1 y0 y1
      have p0 := cell_of_row _ _ 0 _ _ _ t0
      have r0 := cell_of_row _ _ 0 _ _ _ t1
      have p1 := cell_of_row _ _ 1 _ _ _ t0
      have r1 := cell_of_row _ _ 1 _ _ _ t1
      have p2 := cell_of_row _ _ 2 _ _ _ t0
      have r2 := cell_of_row _ _ 2 _ _ _ t1
      have p3 := cell_of_row _ _ 3 _ _ _ t0
      have r3 := cell_of_row _ _ 3 _ _ _ t1
      have p4 := cell_of_row _ _ 4 _ _ _ t0
      have r4 := cell_of_row _ _ 4 _ _ _ t1
      have HB5 := Lib.hid (bnext HB3.out tb)
      have HR5 := Lib.hid (HR.out.next tb)
      have HR5' := Lib.hid (HR'.out.next tb)
      clear t0 t1 tb
      go_wp2_with fail
      refine (ints_any A A' _ c c' _ w5 rfl HXL.out HR5.out HR5'.out).mono ?_
      rintro e w6 ⟨rfl, b6⟩
      have HB6 := Lib.hid (bnext HB5.out b6)
      have p0 := (b6.cell (World.block_lt_of_cell? w5 _ p0)).trans p0
      have r0 := (b6.cell (World.block_lt_of_cell? w5 _ r0)).trans r0
      have p1 := (b6.cell (World.block_lt_of_cell? w5 _ p1)).trans p1
      have r1 := (b6.cell (World.block_lt_of_cell? w5 _ r1)).trans r1
      have p2 := (b6.cell (World.block_lt_of_cell? w5 _ p2)).trans p2
      have r2 := (b6.cell (World.block_lt_of_cell? w5 _ r2)).trans r2
      have p3 := (b6.cell (World.block_lt_of_cell? w5 _ p3)).trans p3
      have r3 := (b6.cell (World.block_lt_of_cell? w5 _ r3)).trans r3
      have p4 := (b6.cell (World.block_lt_of_cell? w5 _ p4)).trans p4
      have r4 := (b6.cell (World.block_lt_of_cell? w5 _ r4)).trans r4
      clear b6
      go_wp2
      go_roundw
      case rel => exact ⟨⟨i + 1, by omega, rfl⟩, HB6.out⟩
      case measure => (simp [intOf]; omega)
    ·obtain rfl : i = ne := by omega
     have HB3 := Lib.hid hb
     clear hb hA hB
     go_wp2
     go_ret
     exact ⟨rfl, (HB2.out.trans (HB3.out.mono HB2.out.size))⟩
set_option maxRecDepth 100000 in
set_option maxHeartbeats 4000000 in
theorem same_tree_false (SA SA' EA EA' : Option Addr) (ns ne sc sc' ec ec' : Nat) (ss ss' : List Sm) (es es' : List Ex) (w : World) (hns : ns = ss.length) (hne : ne = es.length) (hS : EqSs false ss ss') (hE : EqEs false es es')
  (hl : ns ≤ 9223372036854775807 ∧ ne ≤ 9223372036854775807) (hls : ∀ x ∈ ss, x.shape.length ≤ 9223372036854775807) (hle : ∀ x ∈ es, x.args.length ≤ 9223372036854775807) (h1 : RdS w w.heap.size SA ss) (h2 : RdS w w.heap.size SA' ss') (h3 : RdE w w.heap.size EA es) (h4 : RdE w w.heap.size EA' es') :
  Calls Tryz.prog 21 #[.agg #[.slice SA ns sc, .slice EA ne ec], .agg #[.slice SA' ns sc', .slice EA' ne ec'], .bool false] w fun e w' => e = .returned (.bool true) ∧ Below w.heap.size w w' := by
 obtain ⟨w2, hw2⟩ : ∃ w2, w2 = (w.alloc (.cells #[.slice SA ns sc, .slice EA ne ec] 26)).alloc (.cells #[.slice SA' ns sc', .slice EA' ne ec'] 26) := ⟨_, rfl⟩
 have hb2 : Below w.heap.size w w2 := by rw [hw2]; exact ((Below.refl _ _).alloc (Nat.le_refl _) _).alloc (by simp) _
 have hA : w2.heap[w.heap.size]? = some (.cells #[.slice SA ns sc, .slice EA ne ec] 26 (0, 0)) := by
  rw [hw2, Below.heap_alloc _ _ _ (by simp)]
  exact heap_alloc_new w _
 have hB : w2.heap[w.heap.size + 1]? = some (.cells #[.slice SA' ns sc', .slice EA' ne ec'] 26 (0, 0)) := by
  rw [hw2]
  have := heap_alloc_new (w.alloc (.cells #[.slice SA ns sc, .slice EA ne ec] 26)) (.cells #[.slice SA' ns sc', .slice EA' ne ec'] 26)
  rwa [World.size_alloc] at this
 have HW2 := Lib.hid hw2
 have HB2 := Lib.hid hb2
 have HA := Lib.hid (fun W (hW : Below w2.heap.size w2 W) => (hW.block _ (Array.getElem?_eq_some_iff.1 hA).1).trans hA)
 have HB := Lib.hid (fun W (hW : Below w2.heap.size w2 W) => (hW.block _ (Array.getElem?_eq_some_iff.1 hB).1).trans hB)
 have H1 := Lib.hid (h1.next hb2)
 have H2 := Lib.hid (h2.next hb2)
 have H3 := Lib.hid (h3.next hb2)
 have H4 := Lib.hid (h4.next hb2)
 have HNS := Lib.hid hns
 have HNE := Lib.hid hne
 have HS := Lib.hid hS
 have HE := Lib.hid hE
 have HLS := Lib.hid hls
 have HLE := Lib.hid hle
 obtain ⟨hl1, hl2⟩ := hl
 have z0 := cell_of_row _ _ 0 _ _ _ hA
 have z1 := cell_of_row _ _ 1 _ _ _ hA
 have y0 := cell_of_row _ _ 0 _ _ _ hB
 have y1 := cell_of_row _ _ 1 _ _ _ hB
 clear hw2 hb2 hA hB h1 h2 h3 h4 hns hne hS hE hls hle
 go_enter Tryz.func21, Tryz.ntmps21
 go_wp2
 rw [← HW2.out]
 go_wp2
 clear z0 z1 y0 y1
 go_loopw [32] (fun iv wr => IntsRel ns iv ∧ Below w2.heap.size w2 wr) (fun iv _ => ns - (intOf iv).toNat)
 case atStart => exact ⟨⟨0, by omega, rfl⟩, Below.refl _ _⟩
 case round =>
  obtain ⟨⟨i, hi, rfl⟩, hb⟩ := hrel
  have hA := HA.out _ hb
  have hB := HB.out _ hb
  have z0 := cell_of_row _ _ 0 _ _ _ hA
  have z1 := cell_of_row _ _ 1 _ _ _ hA
  have y0 := cell_of_row _ _ 0 _ _ _ hB
  have y1 := cell_of_row _ _ 1 _ _ _ hB
  by_cases hlt : i < ns
  ·have hx : ss[i]? = some (ss[i]'(by rw [← HNS.out]; exact hlt)) := List.getElem?_eq_getElem _
   obtain ⟨x, hxx⟩ : ∃ x, x = ss[i]'(by rw [← HNS.out]; exact hlt) := ⟨_, rfl⟩
   rw [← hxx] at hx
   have hy : ss'[i]? = some (ss'[i]'(by rw [← HS.out.1, ← HNS.out]; exact hlt)) := List.getElem?_eq_getElem _
   obtain ⟨y, hyy⟩ : ∃ y, y = ss'[i]'(by rw [← HS.out.1, ← HNS.out]; exact hlt) := ⟨_, rfl⟩
   rw [← hyy] at hy
   obtain ⟨d0, d1, d2, d3, d4, d5⟩ := HS.out.2 i x y hx hy
   obtain ⟨xk, xp, xn, xs, xe, xq⟩ := x
   obtain ⟨yk, yp, yn, ys, ye, yq⟩ := y
   dsimp only at d0 d1 d2 d3 d4 d5
   subst d0 d1 d2 d3 d4
   clear d5
   obtain ⟨b, o, rfl, hbl, c0, c1, c2, ⟨A, c, c3, c3r⟩, c4, c5⟩ := (H1.out.next hb).at_ hx
   obtain ⟨b', o', rfl, hbl', c0', c1', c2', ⟨A', c', c3', c3r'⟩, c4', c5'⟩ := (H2.out.next hb).at_ hy
   have HXL := Lib.hid (HLS.out _ (List.mem_of_getElem? hx))
   dsimp only at c0 c1 c2 c3 c3r c4 c0' c1' c2' c3' c3r' c4' HXL c5 c5'
   have i0 : (0 : Int) ≤ (i : Int) := by omega
   have i1 : (i : Int) < (ns : Int) := by omega
   have hs1 : w.heap.size + 1 < wr.heap.size := by have := (Array.getElem?_eq_some_iff.1 hB).1; omega
   have hs0 : w.heap.size < wr.heap.size := by omega
   have HB3 := Lib.hid hb
   have HR := Lib.hid c3r
   have HR' := Lib.hid c3r'
   clear hb hx hxx hy hyy hA hB c3r c3r'
   go_wp2_with fail
   go_cut [8, 9] (fun s8 s9 wx => TwoS wr 93 #[.int .i64 ((xk : Nat) : Int), .int .i64 ((xp : Nat) : Int), .string xn, .slice A xs.length c, .int .i64 ((xe : Nat) : Int), .int .i64 ((xq : Nat) : Int)] #[.int .i64 ((xk : Nat) : Int), .int .i64 ((xp : Nat) : Int), .string xn, .slice A' xs.length c', .int .i64 ((xe : Nat) : Int), .int .i64 ((yq : Nat) : Int)] s8 s9 wx)
   case first =>
    go_region
    all_goals
     go_wp2_with fail
     go_meet
     first
      | (obtain ⟨t0, t1, tb⟩ := two_newS wr #[.int .i64 ((xk : Nat) : Int), .int .i64 ((xp : Nat) : Int), .string xn, .slice A xs.length c, .int .i64 ((xe : Nat) : Int), .int .i64 ((xq : Nat) : Int)] #[.int .i64 ((xk : Nat) : Int), .int .i64 ((xp : Nat) : Int), .string xn, .slice A' xs.length c', .int .i64 ((xe : Nat) : Int), .int .i64 ((yq : Nat) : Int)] 93; exact ⟨_, _, rfl, rfl, t0, t1, tb⟩)
      | (obtain ⟨t0, t1, tb⟩ := two_newS wr #[.int .i64 ((xk : Nat) : Int), .int .i64 ((xp : Nat) : Int), .string xn, .slice A' xs.length c', .int .i64 ((xe : Nat) : Int), .int .i64 ((yq : Nat) : Int)] #[.int .i64 ((xk : Nat) : Int), .int .i64 ((xp : Nat) : Int), .string xn, .slice A xs.length c, .int .i64 ((xe : Nat) : Int), .int .i64 ((xq : Nat) : Int)] 93; exact ⟨_, _, rfl, rfl, t1, t0, tb⟩)
   case rest =>
    obtain ⟨g, h, rfl, rfl, t0, t1, tb⟩ := hcut
    obtain ⟨w5, hw5⟩ : ∃ w5, w5 = wc := ⟨_, rfl⟩
    rw [← hw5]
    rw [← hw5] at t0 t1 tb
    clear hw5 c0 c1 c2 c3 c4 c0' c1' c2' c3' c4' c5 c5' z0 z1 y0 y1
    have p0 := cell_of_row _ _ 0 _ _ _ t0
    have r0 := cell_of_row _ _ 0 _ _ _ t1
    have p1 := cell_of_row _ _ 1 _ _ _ t0
    have r1 := cell_of_row _ _ 1 _ _ _ t1
    have p2 := cell_of_row _ _ 2 _ _ _ t0
    have r2 := cell_of_row _ _ 2 _ _ _ t1
    have p3 := cell_of_row _ _ 3 _ _ _ t0
    have r3 := cell_of_row _ _ 3 _ _ _ t1
    have p4 := cell_of_row _ _ 4 _ _ _ t0
    have r4 := cell_of_row _ _ 4 _ _ _ t1
    have p5 := cell_of_row _ _ 5 _ _ _ t0
    have r5 := cell_of_row _ _ 5 _ _ _ t1
    have HB5 := Lib.hid (bnext HB3.out tb)
    have HR5 := Lib.hid (HR.out.next tb)
    have HR5' := Lib.hid (HR'.out.next tb)
    clear t0 t1 tb
    go_wp2_with fail
    refine (ints_any A A' _ c c' _ w5 rfl HXL.out HR5.out HR5'.out).mono ?_
    rintro e w6 ⟨rfl, b6⟩
    have HB6 := Lib.hid (bnext HB5.out b6)
    have p0 := (b6.cell (World.block_lt_of_cell? w5 _ p0)).trans p0
    have r0 := (b6.cell (World.block_lt_of_cell? w5 _ r0)).trans r0
    have p1 := (b6.cell (World.block_lt_of_cell? w5 _ p1)).trans p1
    have r1 := (b6.cell (World.block_lt_of_cell? w5 _ r1)).trans r1
    have p2 := (b6.cell (World.block_lt_of_cell? w5 _ p2)).trans p2
    have r2 := (b6.cell (World.block_lt_of_cell? w5 _ r2)).trans r2
    have p3 := (b6.cell (World.block_lt_of_cell? w5 _ p3)).trans p3
    have r3 := (b6.cell (World.block_lt_of_cell? w5 _ r3)).trans r3
    have p4 := (b6.cell (World.block_lt_of_cell? w5 _ p4)).trans p4
    have r4 := (b6.cell (World.block_lt_of_cell? w5 _ r4)).trans r4
    have p5 := (b6.cell (World.block_lt_of_cell? w5 _ p5)).trans p5
    have r5 := (b6.cell (World.block_lt_of_cell? w5 _ r5)).trans r5
    clear b6
    go_wp2
    go_roundw
    case rel => exact ⟨⟨i + 1, by omega, rfl⟩, HB6.out⟩
    case measure => (simp [intOf]; omega)
  ·obtain rfl : i = ns := by omega
   have HB3 := Lib.hid hb
   clear hb hA hB
   go_wp2
   clear z0 z1 y0 y1
   go_loopw [93] (fun iv wr => IntsRel ne iv ∧ Below w2.heap.size w2 wr) (fun iv _ => ne - (intOf iv).toNat)
   case atStart => exact ⟨⟨0, by omega, rfl⟩, HB3.out⟩
   case round =>
    obtain ⟨⟨i, hi, rfl⟩, hb⟩ := hrel
    have hA := HA.out _ hb
    have hB := HB.out _ hb
    have z0 := cell_of_row _ _ 0 _ _ _ hA
    have z1 := cell_of_row _ _ 1 _ _ _ hA
    have y0 := cell_of_row _ _ 0 _ _ _ hB
    have y1 := cell_of_row _ _ 1 _ _ _ hB
    by_cases hlt : i < ne
    ·have hx : es[i]? = some (es[i]'(by rw [← HNE.out]; exact hlt)) := List.getElem?_eq_getElem _
     obtain ⟨x, hxx⟩ : ∃ x, x = es[i]'(by rw [← HNE.out]; exact hlt) := ⟨_, rfl⟩
     rw [← hxx] at hx
     have hy : es'[i]? = some (es'[i]'(by rw [← HE.out.1, ← HNE.out]; exact hlt)) := List.getElem?_eq_getElem _
     obtain ⟨y, hyy⟩ : ∃ y, y = es'[i]'(by rw [← HE.out.1, ← HNE.out]; exact hlt) := ⟨_, rfl⟩
     rw [← hyy] at hy
     obtain ⟨d0, d1, d2, d3, d4⟩ := HE.out.2 i x y hx hy
     obtain ⟨xk, xn, xp, xs, xq⟩ := x
     obtain ⟨yk, yn, yp, ys, yq⟩ := y
     dsimp only at d0 d1 d2 d3 d4
     subst d0 d1 d2 d3
     clear d4
     obtain ⟨b, o, rfl, hbl, c0, c1, c2, ⟨A, c, c3, c3r⟩, c4⟩ := (H3.out.next hb).at_ hx
     obtain ⟨b', o', rfl, hbl', c0', c1', c2', ⟨A', c', c3', c3r'⟩, c4'⟩ := (H4.out.next hb).at_ hy
     have HXL := Lib.hid (HLE.out _ (List.mem_of_getElem? hx))
     dsimp only at c0 c1 c2 c3 c3r c4 c0' c1' c2' c3' c3r' c4' HXL
     have i0 : (0 : Int) ≤ (i : Int) := by omega
     have i1 : (i : Int) < (ne : Int) := by omega
     have hs1 : w.heap.size + 1 < wr.heap.size := by have := (Array.getElem?_eq_some_iff.1 hB).1; omega
     have hs0 : w.heap.size < wr.heap.size := by omega
     have HB3 := Lib.hid hb
     have HR := Lib.hid c3r
     have HR' := Lib.hid c3r'
     clear hb hx hxx hy hyy hA hB c3r c3r'
     go_wp2_with fail
     go_cut [11, 12] (fun s8 s9 wx => TwoS wr 90 #[.int .i64 ((xk : Nat) : Int), .string xn, .int .u64 ((xp : Nat) : Int), .slice A xs.length c, .int .i64 ((xq : Nat) : Int)] #[.int .i64 ((xk : Nat) : Int), .string xn, .int .u64 ((xp : Nat) : Int), .slice A' xs.length c', .int .i64 ((yq : Nat) : Int)] s8 s9 wx)
     case first =>
      go_region
      all_goals
       go_wp2_with fail
       go_meet
       first
        | (obtain ⟨t0, t1, tb⟩ := two_newS wr #[.int .i64 ((xk : Nat) : Int), .string xn, .int .u64 ((xp : Nat) : Int), .slice A xs.length c, .int .i64 ((xq : Nat) : Int)] #[.int .i64 ((xk : Nat) : Int), .string xn, .int .u64 ((xp : Nat) : Int), .slice A' xs.length c', .int .i64 ((yq : Nat) : Int)] 90; exact ⟨_, _, rfl, rfl, t0, t1, tb⟩)
        | (obtain ⟨t0, t1, tb⟩ := two_newS wr #[.int .i64 ((xk : Nat) : Int), .string xn, .int .u64 ((xp : Nat) : Int), .slice A' xs.length c', .int .i64 ((yq : Nat) : Int)] #[.int .i64 ((xk : Nat) : Int), .string xn, .int .u64 ((xp : Nat) : Int), .slice A xs.length c, .int .i64 ((xq : Nat) : Int)] 90; exact ⟨_, _, rfl, rfl, t1, t0, tb⟩)
     case rest =>
      obtain ⟨g, h, rfl, rfl, t0, t1, tb⟩ := hcut
      obtain ⟨w5, hw5⟩ : ∃ w5, w5 = wc := ⟨_, rfl⟩
      rw [← hw5]
      rw [← hw5] at t0 t1 tb
      clear hw5 c0 c1 c2 c3 c4 c0' c1' c2' c3' c4' z0 z1 y0 y1
      have p0 := cell_of_row _ _ 0 _ _ _ t0
      have r0 := cell_of_row _ _ 0 _ _ _ t1
      have p1 := cell_of_row _ _ 1 _ _ _ t0
      have r1 := cell_of_row _ _ 1 _ _ _ t1
      have p2 := cell_of_row _ _ 2 _ _ _ t0
      have r2 := cell_of_row _ _ 2 _ _ _ t1
      have p3 := cell_of_row _ _ 3 _ _ _ t0
      have r3 := cell_of_row _ _ 3 _ _ _ t1
      have p4 := cell_of_row _ _ 4 _ _ _ t0
      have r4 := cell_of_row _ _ 4 _ _ _ t1
      have HB5 := Lib.hid (bnext HB3.out tb)
      have HR5 := Lib.hid (HR.out.next tb)
      have HR5' := Lib.hid (HR'.out.next tb)
      clear t0 t1 tb
      go_wp2_with fail
      refine (ints_any A A' _ c c' _ w5 rfl HXL.out HR5.out HR5'.out).mono ?_
      rintro e w6 ⟨rfl, b6⟩
      have HB6 := Lib.hid (bnext HB5.out b6)
      have p0 := (b6.cell (World.block_lt_of_cell? w5 _ p0)).trans p0
      have r0 := (b6.cell (World.block_lt_of_cell? w5 _ r0)).trans r0
      have p1 := (b6.cell (World.block_lt_of_cell? w5 _ p1)).trans p1
      have r1 := (b6.cell (World.block_lt_of_cell? w5 _ r1)).trans r1
      have p2 := (b6.cell (World.block_lt_of_cell? w5 _ p2)).trans p2
      have r2 := (b6.cell (World.block_lt_of_cell? w5 _ r2)).trans r2
      have p3 := (b6.cell (World.block_lt_of_cell? w5 _ p3)).trans p3
      have r3 := (b6.cell (World.block_lt_of_cell? w5 _ r3)).trans r3
      have p4 := (b6.cell (World.block_lt_of_cell? w5 _ p4)).trans p4
      have r4 := (b6.cell (World.block_lt_of_cell? w5 _ r4)).trans r4
      clear b6
      go_wp2
      go_roundw
      case rel => exact ⟨⟨i + 1, by omega, rfl⟩, HB6.out⟩
      case measure => (simp [intOf]; omega)
    ·obtain rfl : i = ne := by omega
     have HB3 := Lib.hid hb
     clear hb hA hB
     go_wp2
     go_ret
     exact ⟨rfl, (HB2.out.trans (HB3.out.mono HB2.out.size))⟩
end Go.Proofs.YtghlnncfigkkaaaGreatDoor
