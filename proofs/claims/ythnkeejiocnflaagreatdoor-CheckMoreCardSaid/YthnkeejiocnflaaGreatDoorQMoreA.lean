/-
  Two arrays of rows in memory, made in any order: for the law CheckMore. The walk of the law CheckMore.
-/
import Derived.Test.YthnkeejiocnflaaGreatDoorQTreeB
import Derived.Test.YthnkeejiocnflaaGreatDoorQOwnT
import Derived.Test.YthnkeejiocnflaaGreatDoorQBkC
import Derived.Test.YthnkeejiocnflaaGreatDoorQChkI
import Derived.Test.YthnkeejiocnflaaGreatDoorQWkCTexts
namespace Go.Proofs.YthnkeejiocnflaaGreatDoor
set_option linter.unusedVariables false
set_option linter.unusedSimpArgs false
open Go.RowKit
/-- A block of two empty slices. -/
def ZC (W : World) (b : Nat) : Prop := W.heap[b]? = some (.cells #[.slice none 0 0, .slice none 0 0] 50 (0, 0))
theorem ZC.new (W : World) : ZC (W.alloc (.cells #[.slice none 0 0, .slice none 0 0] 50)) W.heap.size := heap_alloc_new W _
theorem ZC.lt {W : World} {b : Nat} (h : ZC W b) : b < W.heap.size := (Array.getElem?_eq_some_iff.1 h).1
theorem ZC.next {W W' : World} {b : Nat} (h : ZC W b) (hb : Below W.heap.size W W') : ZC W' b := (hb.block b h.lt).trans h
theorem ZC.alloc {W : World} {b : Nat} (h : ZC W b) (o : Obj) : ZC (W.alloc o) b := h.next ((Below.refl _ _).alloc (Nat.le_refl _) o)
theorem InRow.alloc {W : World} {B : Nat} {A : Option Addr} {n c : Nat} {l : List (List Int)} (h : InRow W B A n c l) (o : Obj) : InRow (W.alloc o) B A n c l := h.next ((Below.refl _ _).alloc (Nat.le_refl _) o)
theorem bel_alloc {W W' : World} {B : Nat} (h : Below B W W') (hB : B ≤ W'.heap.size) (o : Obj) : Below B W (W'.alloc o) := h.alloc hB o
theorem InRow.setz {W : World} {B b k : Nat} {A : Option Addr} {n c : Nat} {l : List (List Int)} {cs : Array Value} (h : InRow W B A n c l) (hb : W.heap[b]? = some (.cells cs 50 (0, 0))) (v : Value) : InRow (W.setCell ⟨b, k, none⟩ v) B A n c l :=
  h.other hb (by decide) (by decide) fun g _ hg => Below.heap_setCell W ⟨b, k, none⟩ v g hg
theorem InRow.rdsh {W : World} {B : Nat} {A : Option Addr} {n c : Nat} {l : List (List Int)} (h : InRow W B A n c l) (hl : ∀ x ∈ l, x.length ≤ 1000000) : n = l.length ∧ RdSh W A l := by
  obtain ⟨vs, h0, h1, h2, h3⟩ := h
  refine ⟨by omega, ?_⟩
  by_cases hn : l = []
  · exact .inl hn
  · right
    have hl0 : 0 < l.length := List.length_pos_iff.2 hn
    rcases h1.form with ⟨_, e⟩ | ⟨g, cur, rfl, hb, hg, f1, f2, f3, f4⟩
    · rw [e] at h2
      simp at h2
      omega
    · refine ⟨g, 0, rfl, (Array.getElem?_eq_some_iff.1 hg).1, fun j x hx => ?_⟩
      have hj := (List.getElem?_eq_some_iff.1 hx).1
      have hv : vs[j]? = some (vs[j]'(by omega)) := List.getElem?_eq_getElem _
      obtain ⟨A', c', e, ho⟩ := h3 j _ x hv hx
      refine ⟨A', c', ?_, ho.rd, hl x (List.mem_of_getElem? hx)⟩
      rw [Nat.zero_add, cell_of_row W g j cur _ (0, 0) hg, ← e, ← hv, ← f4, List.getElem?_take, if_pos (by omega)]
      simp
/-- Two arrays of two rows each. -/
def MoreCut (w0 : World) (l0 l1 m0 m1 : List (List Int)) (s t : Value) (wx : World) : Prop :=
  ∃ (b1 b2 : Nat) (A0 : Option Addr) (n0 c0 : Nat) (A1 : Option Addr) (n1 c1 : Nat) (A2 : Option Addr) (n2 c2 : Nat) (A3 : Option Addr) (n3 c3 : Nat), s = .pointer (some ⟨b1, 0, none⟩) ∧ t = .pointer (some ⟨b2, 0, none⟩) ∧ Below w0.heap.size w0 wx ∧
    wx.heap[b1]? = some (.cells #[.slice A0 n0 c0, .slice A1 n1 c1] 50 (0, 0)) ∧ wx.heap[b2]? = some (.cells #[.slice A2 n2 c2, .slice A3 n3 c3] 50 (0, 0)) ∧
    (n0 = l0.length ∧ RdSh wx A0 l0) ∧ (n1 = l1.length ∧ RdSh wx A1 l1) ∧ (n2 = m0.length ∧ RdSh wx A2 m0) ∧ (n3 = m1.length ∧ RdSh wx A3 m1)
theorem more_close {w0 W : World} {b1 b2 B B' n0 c0 n1 c1 n2 c2 n3 c3 : Nat} {A0 A1 A2 A3 : Option Addr} {l0 l1 m0 m1 : List (List Int)} (hl0 : ∀ x ∈ l0, x.length ≤ 1000000) (hl1 : ∀ x ∈ l1, x.length ≤ 1000000) (hm0 : ∀ x ∈ m0, x.length ≤ 1000000) (hm1 : ∀ x ∈ m1, x.length ≤ 1000000)
    (h1 : ZC W b1) (h2 : ZC W b2) (hne : b1 ≠ b2) (hb : Below w0.heap.size w0 W) (g1 : w0.heap.size ≤ b1) (g2 : w0.heap.size ≤ b2) (r0 : InRow W B A0 n0 c0 l0) (r1 : InRow W B A1 n1 c1 l1) (r2 : InRow W B' A2 n2 c2 m0) (r3 : InRow W B' A3 n3 c3 m1) :
    MoreCut w0 l0 l1 m0 m1 (.pointer (some ⟨b1, 0, none⟩)) (.pointer (some ⟨b2, 0, none⟩)) ((((W.setCell ⟨b1, 0, none⟩ (.slice A0 n0 c0)).setCell ⟨b1, 1, none⟩ (.slice A1 n1 c1)).setCell ⟨b2, 0, none⟩ (.slice A2 n2 c2)).setCell ⟨b2, 1, none⟩ (.slice A3 n3 c3)).drew := by
  obtain ⟨W1, hW1⟩ : ∃ W1, W1 = W.setCell ⟨b1, 0, none⟩ (.slice A0 n0 c0) := ⟨_, rfl⟩
  have e1 : W1.heap[b1]? = some (.cells #[.slice A0 n0 c0, .slice none 0 0] 50 (0, 0)) := by rw [hW1]; exact heap_setCell_same _ _ _ _ _ _ h1
  have f1 : W1.heap[b2]? = some (.cells #[.slice none 0 0, .slice none 0 0] 50 (0, 0)) := by rw [hW1]; exact (Below.heap_setCell W ⟨b1, 0, none⟩ _ b2 (fun e => hne e.symm)).trans h2
  have k1 : ∀ {B A n c l}, InRow W B A n c l → InRow W1 B A n c l := fun h => by rw [hW1]; exact h.setz h1 _
  have d1 : Below w0.heap.size w0 W1 := by rw [hW1]; exact setCell_below hb g1 _
  rw [← hW1]
  obtain ⟨W2, hW2⟩ : ∃ W2, W2 = W1.setCell ⟨b1, 1, none⟩ (.slice A1 n1 c1) := ⟨_, rfl⟩
  have e2 : W2.heap[b1]? = some (.cells #[.slice A0 n0 c0, .slice A1 n1 c1] 50 (0, 0)) := by rw [hW2]; exact heap_setCell_same _ _ _ _ _ _ e1
  have f2 : W2.heap[b2]? = some (.cells #[.slice none 0 0, .slice none 0 0] 50 (0, 0)) := by rw [hW2]; exact (Below.heap_setCell W1 ⟨b1, 1, none⟩ _ b2 (fun e => hne e.symm)).trans f1
  have k2 : ∀ {B A n c l}, InRow W1 B A n c l → InRow W2 B A n c l := fun h => by rw [hW2]; exact h.setz e1 _
  have d2 : Below w0.heap.size w0 W2 := by rw [hW2]; exact setCell_below d1 g1 _
  rw [← hW2]
  obtain ⟨W3, hW3⟩ : ∃ W3, W3 = W2.setCell ⟨b2, 0, none⟩ (.slice A2 n2 c2) := ⟨_, rfl⟩
  have e3 : W3.heap[b1]? = some (.cells #[.slice A0 n0 c0, .slice A1 n1 c1] 50 (0, 0)) := by rw [hW3]; exact (Below.heap_setCell W2 ⟨b2, 0, none⟩ _ b1 hne).trans e2
  have f3 : W3.heap[b2]? = some (.cells #[.slice A2 n2 c2, .slice none 0 0] 50 (0, 0)) := by rw [hW3]; exact heap_setCell_same _ _ _ _ _ _ f2
  have k3 : ∀ {B A n c l}, InRow W2 B A n c l → InRow W3 B A n c l := fun h => by rw [hW3]; exact h.setz f2 _
  have d3 : Below w0.heap.size w0 W3 := by rw [hW3]; exact setCell_below d2 g2 _
  rw [← hW3]
  obtain ⟨W4, hW4⟩ : ∃ W4, W4 = W3.setCell ⟨b2, 1, none⟩ (.slice A3 n3 c3) := ⟨_, rfl⟩
  have e4 : W4.heap[b1]? = some (.cells #[.slice A0 n0 c0, .slice A1 n1 c1] 50 (0, 0)) := by rw [hW4]; exact (Below.heap_setCell W3 ⟨b2, 1, none⟩ _ b1 hne).trans e3
  have f4 : W4.heap[b2]? = some (.cells #[.slice A2 n2 c2, .slice A3 n3 c3] 50 (0, 0)) := by rw [hW4]; exact heap_setCell_same _ _ _ _ _ _ f3
  have k4 : ∀ {B A n c l}, InRow W3 B A n c l → InRow W4 B A n c l := fun h => by rw [hW4]; exact h.setz f3 _
  have d4 : Below w0.heap.size w0 W4 := by rw [hW4]; exact setCell_below d3 g2 _
  rw [← hW4]
  exact ⟨b1, b2, A0, n0, c0, A1, n1, c1, A2, n2, c2, A3, n3, c3, rfl, rfl, d4.drew, e4, f4, (k4 (k3 (k2 (k1 r0)))).rdsh hl0, (k4 (k3 (k2 (k1 r1)))).rdsh hl1, (k4 (k3 (k2 (k1 r2)))).rdsh hm0, (k4 (k3 (k2 (k1 r3)))).rdsh hm1⟩
theorem RdSh.left {w : World} {A : Option Addr} {xs ys : List (List Int)} (h : RdSh w A (xs ++ ys)) : RdSh w A xs := by
  rcases h with h | ⟨b, o, hA, hlt, hc⟩
  · exact .inl (List.append_eq_nil_iff.1 h).1
  · refine .inr ⟨b, o, hA, hlt, fun j l hj => hc j l ?_⟩
    rw [List.getElem?_append_left (List.getElem?_eq_some_iff.1 hj).1]
    exact hj
def moreB : ByteArray := { data := #[110, 111, 116, 32, 97, 32, 110, 97, 109, 101, 32, 111, 102, 32, 97, 32, 116, 101, 120, 116] }
theorem idx_2 (x : Int) : ∃ i : Nat, i < 2 ∧ wrap64 ((IntKind.u64.wrap x).tmod 2) = (i : Int) := by
  rw [wrapN]
  have h1 : 0 ≤ x % 18446744073709551616 := Int.emod_nonneg _ (by omega)
  rw [Int.tmod_eq_emod_of_nonneg h1]
  refine ⟨(x % 18446744073709551616 % 2).toNat, by omega, ?_⟩
  unfold wrap64
  omega
/-- Ahead of the append of two. -/
theorem more_pre {w7 : World} {B vc : Nat} {VA : Option Addr} {es : List EI} (h : OwnEI w7 B VA vc es) (hB : B ≤ w7.heap.size) (ne : Int) (o2 : Obj) :
    OwnEI ((w7.alloc (.cells #[.int .i64 ne] 3)).alloc o2) B VA vc es ∧ ((w7.alloc (.cells #[.int .i64 ne] 3)).alloc o2).heap[w7.heap.size + 1]? = some o2 ∧ ArgI ((w7.alloc (.cells #[.int .i64 ne] 3)).alloc o2) B (.slice none 0 0) [] ∧ ArgI ((w7.alloc (.cells #[.int .i64 ne] 3)).alloc o2) B (.slice (some ⟨w7.heap.size, 0, none⟩) 1 1) [ne] ∧ B ≤ ((w7.alloc (.cells #[.int .i64 ne] 3)).alloc o2).heap.size := by
  have hb : Below w7.heap.size w7 ((w7.alloc (.cells #[.int .i64 ne] 3)).alloc o2) := ((Below.refl _ _).alloc (Nat.le_refl _) _).alloc (by simp) _
  refine ⟨h.next hb, ?_, ⟨none, 0, rfl, Own.nil _ _ _⟩, ⟨some ⟨w7.heap.size, 0, none⟩, 1, rfl, ?_⟩, Nat.le_trans hB hb.size⟩
  · have := heap_alloc_new (w7.alloc (.cells #[.int .i64 ne] 3)) o2
    rwa [World.size_alloc] at this
  · exact (Own.full w7 3 [.int .i64 ne] hB (by simp [maxLen])).alloc o2
theorem more_preS {w7 : World} {B uc : Nat} {UA : Option Addr} {ss : List SI} (h : OwnSI w7 B UA uc ss) (hB : B ≤ w7.heap.size) (o2 : Obj) :
    OwnSI (w7.alloc o2) B UA uc ss ∧ (w7.alloc o2).heap[w7.heap.size]? = some o2 ∧ ArgI (w7.alloc o2) B (.slice none 0 0) [] ∧ B ≤ (w7.alloc o2).heap.size := by
  have hb : Below w7.heap.size w7 (w7.alloc o2) := (Below.refl _ _).alloc (Nat.le_refl _) _
  exact ⟨h.next hb, heap_alloc_new w7 o2, ⟨none, 0, rfl, Own.nil _ _ _⟩, Nat.le_trans hB hb.size⟩
theorem moreS_eq (n : Nat) : moreS moreB n = [⟨2, 0, moreB, [], (n : Int) + 1, 0⟩, ⟨3, 0, moreB, [], 0, 0⟩] := rfl
theorem OutSh.at_ {w : World} {base q : Nat} {sh : List (List Int)} (h : OutSh w base q sh) {i : Nat} {l : List Int} (hi : sh[i]? = some l) : ∃ A c, w.cell? ⟨q, i, none⟩ = some (.slice A l.length c) := by
  obtain ⟨svs, s1, s2, s3, s4, _⟩ := h
  have hlt := (List.getElem?_eq_some_iff.1 hi).1
  have hv : svs[i]? = some (svs[i]'(by omega)) := List.getElem?_eq_getElem _
  obtain ⟨m2, A, c, e, ho⟩ := s4 i _ l hv hi
  exact ⟨A, c, by rw [cell_of_row w q i _ _ (0, 0) s1, List.getElem?_toArray, hv, e]⟩
/-- A tree's block beside a row that grows. -/
theorem tree_grown {w w' : World} {b : Nat} {cs : Array Value} {A : Option Addr} {T : TypeId} {B : Nat} (h : w.heap[b]? = some (.cells cs 29 (0, 0))) (hg : w.grownBy w' (blk A)) (hA : A = none ∨ ∃ g cur, A = some ⟨g, 0, none⟩ ∧ B ≤ g ∧ w.heap[g]? = some (.cells cur T (0, 0))) (hT : T ≠ 29) : w'.heap[b]? = some (.cells cs 29 (0, 0)) := by
  rw [hg.block b (Array.getElem?_eq_some_iff.1 h).1 (fun e => by
    rcases hA with rfl | ⟨g, cur', rfl, _, hc⟩
    · simp [blk] at e
    · have e' : b = g := by simpa [blk] using e
      subst e'
      rw [hc] at h
      injection h with h
      injection h with _ h _
      exact hT h)]
  exact h
theorem row_below {w w' : World} {A : Option Addr} {T : TypeId} {B : Nat} {W : World} (hw : Below B W w) (hs : B ≤ w.heap.size) (hg : w.grownBy w' (blk A)) (hA : A = none ∨ ∃ g cur, A = some ⟨g, 0, none⟩ ∧ B ≤ g ∧ w.heap[g]? = some (.cells cur T (0, 0))) : Below B W w' :=
  grown_below hw hg hs fun k hk => by
    rcases hA with rfl | ⟨g, cur', rfl, hb, hc⟩
    · cases hk
    · have e' : g = k := by simpa [blk] using hk
      omega
theorem OwnEI.grown {w8 w9 : World} {B c : Nat} {A E : Option Addr} {l : List EI} {T : TypeId} (h : OwnEI w8 B A c l) (g : w8.grownBy w9 (blk E)) (ki : KI w8 w9) (hE : E = none ∨ ∃ g cur, E = some ⟨g, 0, none⟩ ∧ B ≤ g ∧ w8.heap[g]? = some (.cells cur T (0, 0))) (hT : T ≠ 41) : OwnEI w9 B A c l :=
  h.keep ki fun k hk => g.block k (h.lt k hk).2 (fun e => by
    rcases h.form with rfl | ⟨g', cur, rfl, _, hc⟩
    · cases hk
    · have e2 : g' = k := by simpa [blk] using hk
      subst e2
      rcases hE with rfl | ⟨g2, cur2, rfl, _, hc2⟩
      · simp [blk] at e
      · have e3 : g' = g2 := by simpa [blk] using e
        subst e3
        rw [hc2] at hc
        injection hc with hc
        injection hc with _ hc _
        exact hT hc)
/-- Both cells of an array are stored. -/
theorem store_arr {W : World} {b : Nat} (h : ZC W b) (x y : Value) :
    ((W.setCell ⟨b, 0, none⟩ x).setCell ⟨b, 1, none⟩ y).heap[b]? = some (.cells #[x, y] 50 (0, 0)) ∧
    (∀ {B n c : Nat} {A : Option Addr} {l : List (List Int)}, InRow W B A n c l → InRow ((W.setCell ⟨b, 0, none⟩ x).setCell ⟨b, 1, none⟩ y) B A n c l) ∧
    (∀ b', b' ≠ b → ((W.setCell ⟨b, 0, none⟩ x).setCell ⟨b, 1, none⟩ y).heap[b']? = W.heap[b']?) ∧
    (∀ {B : Nat} {W0 : World}, Below B W0 W → B ≤ b → Below B W0 ((W.setCell ⟨b, 0, none⟩ x).setCell ⟨b, 1, none⟩ y)) := by
  have e1 : (W.setCell ⟨b, 0, none⟩ x).heap[b]? = some (.cells #[x, .slice none 0 0] 50 (0, 0)) := heap_setCell_same _ _ _ _ _ _ h
  exact ⟨heap_setCell_same _ _ _ _ _ _ e1, fun r => (r.setz h x).setz e1 y, fun b' hb => (Below.heap_setCell _ ⟨b, 1, none⟩ y b' hb).trans (Below.heap_setCell _ ⟨b, 0, none⟩ x b' hb), fun hb hB => setCell_below (setCell_below hb hB x) hB y⟩
theorem ZC.facts {W : World} {b : Nat} (h : ZC W b) : W.cell? ⟨b, 0, none⟩ = some (.slice none 0 0) ∧ W.cell? ⟨b, 1, none⟩ = some (.slice none 0 0) ∧ ∀ k, W.frozen? ⟨b, k, none⟩ = false :=
  ⟨cell_of_row _ _ 0 _ _ _ h, cell_of_row _ _ 1 _ _ _ h, fun k => by simp [World.frozen?, show W.heap[b]? = _ from h]⟩
end Go.Proofs.YthnkeejiocnflaaGreatDoor
namespace Go.Proofs.YthnkeejiocnflaaGreatDoor
set_option linter.unusedVariables false
set_option linter.unusedSimpArgs false
open Go.RowKit
set_option maxRecDepth 100000 in
set_option maxHeartbeats 8000000 in
theorem CheckMore_walk (w : World) (hg : ETyped w) (ht : ErrT w) (s : ByteArray) (hsz : s.size ≤ maxLen) (at_ : Int) (ha1 : -9223372036854775808 ≤ at_) (ha2 : at_ ≤ 9223372036854775807) :
    Calls Tryz.prog 5 #[.string s, .int .i64 at_] w fun e w' => e = .returned (.bool true) ∧ Below w.heap.size w w' := by
  obtain ⟨s2, hs2⟩ : ∃ s2, s2 = s.extract 0 (minN s.size 4200) := ⟨_, rfl⟩
  have hz2 : s2.size ≤ 100000 := by
    have := (minN_le s.size 4200).2.1
    rw [hs2, ByteArray.size_extract]
    omega
  obtain ⟨F, hF6, hF⟩ : ∃ F, F ≤ 6200 ∧ ∀ l, scanM s2 = .toks l → 12 * l.length + 20 ≤ F := by
    cases h : scanM s2 with
    | toks l => exact ⟨12 * l.length + 20, by have := (scanM_len h).1; omega, fun l' h' => by injection h' with h'; subst h'; exact Nat.le_refl _⟩
    | err c p => exact ⟨0, by omega, fun l' h' => by cases h'⟩
  have HF := Lib.hid hF
  have HZ2 := Lib.hid hz2
  have HW := Lib.hid (cawake_true w hg ht)
  have HCUT := Lib.hid (fun W => cut_any s hsz W)
  rw [← hs2] at HCUT
  have HG := Lib.hid hg
  have HT := Lib.hid ht
  clear hs2 hz2 hF hg ht
  go_enter Tryz.func5, Tryz.ntmps5
  go_wp2_with (first
    | (go_at_call 9; refine HW.out.mono ?_; rintro e w1 ⟨rfl, b1⟩; have HB1 := Lib.hid b1; have HG1 := Lib.hid (HG.out.next b1); have HT1 := Lib.hid (HT.out.next b1); clear b1)
    | (go_at_call 13; refine (HCUT.out _).mono ?_; rintro e w' ⟨rfl, rfl⟩))
  refine (text_any s2 F w1 HZ2.out HG1.out HT1.out HF.out).mono ?_
  rintro e w2 ⟨hb2, h⟩
  rcases h with ⟨l, hl, he, SA, sc, EA, ec, rfl, oS, oE⟩ | ⟨l, c, p, v, hl, he, rfl, hv⟩ | ⟨c, p, v, hl, rfl, hv⟩
  · have hlen := (scanM_len hl).1
    have hns := loop_small he
    have hne := es_small F l
    have hS := oS.int
    have hE := oE.int
    have hsm0 : ∀ x ∈ (parseP F l).ss.map SI.of, x.shape.length ≤ 1000000 := fun x hx => by
      obtain ⟨y, hy, rfl⟩ := List.mem_map.1 hx
      have := (ss_small (scanM_names hl) F y hy).2
      show (y.shape.map Int.ofNat).length ≤ _
      rw [List.length_map]
      omega
    have hnm := parse_name (scanM_names hl) F (nm := moreB) (by decide)
    have hsp := parse_shape l F
    obtain ⟨ss, hss⟩ : ∃ ss, ss = (parseP F l).ss.map SI.of := ⟨_, rfl⟩
    obtain ⟨es, hes⟩ : ∃ es, es = (parseP F l).es.map EI.of := ⟨_, rfl⟩
    rw [← hss] at hS hnm hsp hsm0
    rw [← hes] at hE
    obtain ⟨ns, hn1⟩ : ∃ ns, ns = (parseP F l).ss.length := ⟨_, rfl⟩
    obtain ⟨ne, hn2⟩ : ∃ ne, ne = (parseP F l).es.length := ⟨_, rfl⟩
    have hls := Lib.hid (show ns = ss.length from by rw [hss, List.length_map, hn1])
    have hle := Lib.hid (show ne = es.length from by rw [hes, List.length_map, hn2])
    have hns' : ns ≤ 64 := by rw [hn1]; exact hns
    have hne' : ne ≤ 513 := by rw [hn2]; exact Nat.le_trans hne hlen
    rw [← hn1, ← hn2]
    have HG2 := Lib.hid (HG1.out.next hb2)
    have HB2 := Lib.hid (bnext HB1.out hb2)
    have HS2 := Lib.hid hS
    have HE2 := Lib.hid hE
    have HNM := Lib.hid hnm
    have HSP := Lib.hid hsp
    have HSM := Lib.hid hsm0
    clear hlen hns hne hS hE hss hes hn1 hn2 oS oE hl he hb2 hnm hsp hsm0
    go_wp2_with fail
    obtain ⟨w3, hw3⟩ : ∃ w3, w3 = w2.alloc (.cells #[.slice SA ns sc, .slice EA ne ec] 29) := ⟨_, rfl⟩
    rw [← hw3]
    have hb3 : Below w2.heap.size w2 w3 := by rw [hw3]; exact (Below.refl _ _).alloc (Nat.le_refl _) _
    have hA : w3.heap[w2.heap.size]? = some (.cells #[.slice SA ns sc, .slice EA ne ec] 29 (0, 0)) := by rw [hw3]; exact heap_alloc_new w2 _
    have HTB := Lib.hid (fun W (hW : Below w3.heap.size w3 W) => (hW.block _ (Array.getElem?_eq_some_iff.1 hA).1).trans hA)
    have hlt2 : w2.heap.size < w3.heap.size := (Array.getElem?_eq_some_iff.1 hA).1
    obtain ⟨tb, htb⟩ : ∃ tb, tb = w2.heap.size := ⟨_, rfl⟩
    rw [← htb] at HTB hlt2 ⊢
    have HG3 := Lib.hid (HG2.out.next hb3)
    have HB3 := Lib.hid (bnext HB2.out hb3)
    have HS3 := Lib.hid (HS2.out.next hb3)
    have HE3 := Lib.hid (HE2.out.next hb3)
    clear hw3 hb3 hA htb
    refine (check_any SA EA ns ne sc ec ss es w3 hls.out hle.out (by omega) (by omega) HS3.out HE3.out HG3.out).mono ?_
    cases hc : checkC ss es with
    | inl sh =>
      rintro e w4 ⟨hb4, q, rfl, hO⟩
      have HOQ := Lib.hid hO
      have HLS := Lib.hid (checkC_len hc)
      have hA4 := HTB.out _ hb4
      have z0 := cell_of_row _ _ 0 _ _ _ hA4
      have z1 := cell_of_row _ _ 1 _ _ _ hA4
      have HB4 := Lib.hid hb4
      have HC := Lib.hid hc
      have HSS := Lib.hid (ownSs_same hc (by rw [← hls.out]; omega) HSP.out)
      have HEE := Lib.hid (ownEs_same hc (by rw [← hle.out]; omega))
      clear hb4 hO hA4 hc
      by_cases h60 : 60 < ns
      · have q0 : decide ((60 : Int) < (ns : Int)) = true := by simp; omega
        clear z0 z1
        have z0 := cell_of_row _ _ 0 _ _ _ (HTB.out _ HB4.out)
        go_wp2
        go_ret
        exact ⟨rfl, bnext HB3.out HB4.out⟩
      · have q0 : decide ((60 : Int) < (ns : Int)) = false := by simp; omega
        have HS4 := Lib.hid (HS3.out.next HB4.out)
        have HE4 := Lib.hid (HE3.out.next HB4.out)
        go_wp2_with fail
        refine (own_any SA EA ns ne sc ec ss es w4 hls.out hle.out (by omega) (by omega) HS4.out HE4.out).mono ?_
        rintro e w6 ⟨hb6, UA, uc, VA, vc, rfl, oU, oV⟩
        rw [HSS.out, HEE.out, ← hls.out, ← hle.out]
        rw [HSS.out] at oU
        rw [HEE.out] at oV
        have HB36 := Lib.hid (HB4.out.trans (hb6.mono HB4.out.size))
        have hA6 := HTB.out _ HB36.out
        have z0 := cell_of_row _ _ 0 _ _ _ hA6
        have z1 := cell_of_row _ _ 1 _ _ _ hA6
        go_upto_region 10 with fail
        obtain ⟨w7, hw7⟩ : ∃ w7, w7 = w6.alloc (.cells #[.slice UA ns uc, .slice VA ne vc] 29) := ⟨_, rfl⟩
        rw [← hw7]
        have hb7 : Below w6.heap.size w6 w7 := by rw [hw7]; exact (Below.refl _ _).alloc (Nat.le_refl _) _
        have hU : w7.heap[w6.heap.size]? = some (.cells #[.slice UA ns uc, .slice VA ne vc] 29 (0, 0)) := by rw [hw7]; exact heap_alloc_new w6 _
        obtain ⟨ub, hub⟩ : ∃ ub, ub = w6.heap.size := ⟨_, rfl⟩
        have hub4 : w4.heap.size ≤ ub := by rw [hub]; exact hb6.size
        rw [← hub] at hU ⊢
        have HU7 := Lib.hid (oU.next hb7)
        have HV7 := Lib.hid (oV.next hb7)
        have HB47 := Lib.hid (bnext hb6 hb7)
        have HUB := Lib.hid hU
        have hA7 := HTB.out _ (HB4.out.trans (HB47.out.mono HB4.out.size))
        have z0 := cell_of_row _ _ 0 _ _ _ hA7
        have z1 := cell_of_row _ _ 1 _ _ _ hA7
        have u0 := cell_of_row _ _ 0 _ _ _ hU
        have u1 := cell_of_row _ _ 1 _ _ _ hU
        have hb47 : w4.heap.size ≤ w7.heap.size := HB47.out.size
        have hltb : tb < w7.heap.size := (Array.getElem?_eq_some_iff.1 hA7).1
        have hlub : ub < w7.heap.size := (Array.getElem?_eq_some_iff.1 hU).1
        clear hw7 hub hb6 hb7 hA6 hA7 oU oV hU
        have HM := Lib.hid (more_pre HV7.out hb47 (ne : Int) (.cells #[.int .i64 1, .string { data := #[] }, .int .u64 5, .slice none 0 0, .int .i64 0, .int .i64 3, .string { data := #[] }, .int .u64 0, .slice (some ⟨w7.heap.size, 0, none⟩) 1 1, .int .i64 0] 41))
        go_upto_region 11 with (at_builtin; (refine appEI2 rfl (.tmp 40) (.tmp 47) rfl w4.heap.size VA vc ne es hle.out rfl HM.out.1 (w7.heap.size + 1) rfl (⟨1, noB, 5, [], 0⟩, .slice none 0 0) (⟨3, noB, 0, [(ne : Int)], 0⟩, .slice (some ⟨w7.heap.size, 0, none⟩) 1 1) HM.out.2.1 HM.out.2.2.1 HM.out.2.2.2.1 (by omega) HM.out.2.2.2.2 ?_); intro VA2 vc2 w9 hV9 g9 h9 ki9; have b8 : Below w7.heap.size w7 ((w7.alloc (.cells #[.int .i64 (ne : Int)] 3)).alloc (.cells #[.int .i64 1, .string { data := #[] }, .int .u64 5, .slice none 0 0, .int .i64 0, .int .i64 3, .string { data := #[] }, .int .u64 0, .slice (some ⟨w7.heap.size, 0, none⟩) 1 1, .int .i64 0] 41)) := ((Below.refl _ _).alloc (Nat.le_refl _) _).alloc (by simp) _; have T9 := tree_grown ((b8.block _ hlub).trans HUB.out) g9 HM.out.1.form (by decide); have B9 := row_below (HB47.out.trans (b8.mono hb47)) HM.out.2.2.2.2 g9 HM.out.1.form; have U9 := (HU7.out.next b8).grown g9 ki9 HM.out.1.form (by decide); have HT9 := Lib.hid T9; have HB9 := Lib.hid B9; have HU9 := Lib.hid U9; have HV9 := Lib.hid hV9; have t1 := cell_of_row _ _ 1 _ _ _ T9; have fz9 : w9.frozen? ⟨ub, 1, none⟩ = false := (by simp [World.frozen?, T9]); clear b8 g9 h9 ki9 hV9 T9 B9 U9)
        obtain ⟨w10, hw10⟩ : ∃ w10, w10 = w9.setCell ⟨ub, 1, none⟩ (.slice VA2 (ne + 2) vc2) := ⟨_, rfl⟩
        rw [← hw10]
        have HUB10 := Lib.hid (show w10.heap[ub]? = some (.cells #[.slice UA ns uc, .slice VA2 (ne + 2) vc2] 29 (0, 0)) from by rw [hw10]; exact heap_setCell_same _ _ _ _ _ _ HT9.out)
        have HB10 := Lib.hid (show Below w4.heap.size w4 w10 from by rw [hw10]; exact setCell_below HB9.out hub4 _)
        have HU10 := Lib.hid (show OwnSI w10 w4.heap.size UA uc ss from by rw [hw10]; exact HU9.out.other HT9.out (by decide) (by decide) _)
        have HV10 := Lib.hid (show OwnEI w10 w4.heap.size VA2 vc2 (es ++ moreE ne) from by rw [hw10]; exact HV9.out.other HT9.out (by decide) (by decide) _)
        have hA10 := HTB.out _ (HB4.out.trans (HB10.out.mono HB4.out.size))
        clear z0 z1 u0 u1 t1 fz9 hw10 hltb hlub hb47
        have z0 := cell_of_row _ _ 0 _ _ _ hA10
        have z1 := cell_of_row _ _ 1 _ _ _ hA10
        have u0 := cell_of_row _ _ 0 _ _ _ HUB10.out
        have u1 := cell_of_row _ _ 1 _ _ _ HUB10.out
        have hb410 : w4.heap.size ≤ w10.heap.size := HB10.out.size
        have hltb : tb < w10.heap.size := (Array.getElem?_eq_some_iff.1 hA10).1
        have hlub : ub < w10.heap.size := (Array.getElem?_eq_some_iff.1 HUB10.out).1
        clear hA10
        have HM2 := Lib.hid (more_preS HU10.out hb410 (.cells #[.int .i64 2, .int .i64 0, .string { data := #[110, 111, 116, 32, 97, 32, 110, 97, 109, 101, 32, 111, 102, 32, 97, 32, 116, 101, 120, 116] }, .slice none 0 0, .int .i64 ((ne : Int) + 1), .int .i64 0, .int .i64 3, .int .i64 0, .string { data := #[110, 111, 116, 32, 97, 32, 110, 97, 109, 101, 32, 111, 102, 32, 97, 32, 116, 101, 120, 116] }, .slice none 0 0, .int .i64 0, .int .i64 0] 46))
        go_upto_region 12 with (at_builtin; (refine appSI2 rfl (.tmp 51) (.tmp 58) rfl w4.heap.size UA uc ns ss hls.out rfl HM2.out.1 w10.heap.size rfl (⟨2, 0, moreB, [], (ne : Int) + 1, 0⟩, .slice none 0 0) (⟨3, 0, moreB, [], 0, 0⟩, .slice none 0 0) HM2.out.2.1 HM2.out.2.2.1 HM2.out.2.2.1 (by omega) HM2.out.2.2.2 ?_); intro UA2 uc2 w11 hU11 g11 h11 ki11; have b8 : Below w10.heap.size w10 (w10.alloc (.cells #[.int .i64 2, .int .i64 0, .string { data := #[110, 111, 116, 32, 97, 32, 110, 97, 109, 101, 32, 111, 102, 32, 97, 32, 116, 101, 120, 116] }, .slice none 0 0, .int .i64 ((ne : Int) + 1), .int .i64 0, .int .i64 3, .int .i64 0, .string { data := #[110, 111, 116, 32, 97, 32, 110, 97, 109, 101, 32, 111, 102, 32, 97, 32, 116, 101, 120, 116] }, .slice none 0 0, .int .i64 0, .int .i64 0] 46)) := (Below.refl _ _).alloc (Nat.le_refl _) _; have T11 := tree_grown ((b8.block _ hlub).trans HUB10.out) g11 HM2.out.1.form (by decide); have B11 := row_below (HB10.out.trans (b8.mono hb410)) HM2.out.2.2.2 g11 HM2.out.1.form; have V11 := (HV10.out.next b8).grown g11 ki11 HM2.out.1.form (by decide); have HT11 := Lib.hid T11; have HB11 := Lib.hid B11; have HU11 := Lib.hid hU11; have HV11 := Lib.hid V11; have t1 := cell_of_row _ _ 0 _ _ _ T11; have fz11 : w11.frozen? ⟨ub, 0, none⟩ = false := (by simp [World.frozen?, T11]); clear b8 g11 h11 ki11 hU11 T11 B11 V11)
        obtain ⟨w12, hw12⟩ : ∃ w12, w12 = w11.setCell ⟨ub, 0, none⟩ (.slice UA2 (ns + 2) uc2) := ⟨_, rfl⟩
        rw [← hw12]
        have HUB12 := Lib.hid (show w12.heap[ub]? = some (.cells #[.slice UA2 (ns + 2) uc2, .slice VA2 (ne + 2) vc2] 29 (0, 0)) from by rw [hw12]; exact heap_setCell_same _ _ _ _ _ _ HT11.out)
        have HB12 := Lib.hid (show Below w4.heap.size w4 w12 from by rw [hw12]; exact setCell_below HB11.out hub4 _)
        have HU12 := Lib.hid (show OwnSI w12 w4.heap.size UA2 uc2 (ss ++ moreS moreB ne) from by rw [hw12, moreS_eq]; exact HU11.out.other HT11.out (by decide) (by decide) _)
        have HV12 := Lib.hid (show OwnEI w12 w4.heap.size VA2 vc2 (es ++ moreE ne) from by rw [hw12]; exact HV11.out.other HT11.out (by decide) (by decide) _)
        clear z0 z1 u0 u1 t1 fz11 hw12 hltb hlub hb410
        have u0 := cell_of_row _ _ 0 _ _ _ HUB12.out
        have u1 := cell_of_row _ _ 1 _ _ _ HUB12.out
        have HB312 := Lib.hid (HB4.out.trans (HB12.out.mono HB4.out.size))
        have HLS2 := Lib.hid (show ns + 2 = (ss ++ moreS moreB ne).length from by rw [List.length_append, ← hls.out]; rfl)
        have HLE2 := Lib.hid (show ne + 2 = (es ++ moreE ne).length from by rw [List.length_append, ← hle.out]; rfl)
        have HMC := Lib.hid (show checkC (ss ++ moreS moreB ne) (es ++ moreE ne) = .inl (sh ++ [[], []]) from by rw [hle.out]; exact more_law HC.out HNM.out (by decide))
        go_wp2_with fail
        refine (check_any UA2 VA2 (ns + 2) (ne + 2) uc2 vc2 (ss ++ moreS moreB ne) (es ++ moreE ne) w12 HLS2.out HLE2.out (by omega) (by omega) HU12.out.rd HV12.out.rd (HG3.out.next HB312.out)).mono ?_
        rw [HMC.out]
        rintro e w13 ⟨hb13, q2, rfl, hO2⟩
        have HOQ2 := Lib.hid hO2
        have HB313 := Lib.hid (HB312.out.trans (hb13.mono HB312.out.size))
        have HB413 := Lib.hid (HB12.out.trans (hb13.mono HB12.out.size))
        have HUB13 := Lib.hid ((hb13.block _ (Array.getElem?_eq_some_iff.1 HUB12.out).1).trans HUB12.out)
        have HU13 := Lib.hid (HU12.out.next hb13)
        have HV13 := Lib.hid (HV12.out.next hb13)
        clear hb13 hO2 u0 u1
        go_wp2_with fail
        have HSL := Lib.hid (show ∀ p, ∀ x ∈ inputsC ss p, x.length ≤ 1000000 from fun p x hx => by
          unfold inputsC at hx
          obtain ⟨y, hy, rfl⟩ := List.mem_map.1 hx
          exact HSM.out y (List.mem_filter.1 hy).1)
        have HSM2 := Lib.hid (show ∀ x ∈ ss ++ moreS moreB ne, x.shape.length ≤ 1000000 from fun x hx => by
          rcases List.mem_append.1 hx with hx | hx
          · exact HSM.out x hx
          · rw [moreS_eq] at hx
            simp only [List.mem_cons, List.not_mem_nil, or_false] at hx
            rcases hx with rfl | rfl <;> exact Nat.zero_le _)
        have HIN := Lib.hid (fun W (hW : Below w13.heap.size w13 W) => (inputs_any SA EA ns ne sc ec ss W hls.out (by omega) (HS3.out.next (HB313.out.trans (hW.mono HB313.out.size))) HSM.out).mono (fun e W' (h : Below W.heap.size W W' ∧ ∃ A0 n0 c0 A1 n1 c1, e = .returned (.agg #[.slice A0 n0 c0, .slice A1 n1 c1]) ∧ InRow W' W.heap.size A0 n0 c0 (inputsC ss 0) ∧ InRow W' W.heap.size A1 n1 c1 (inputsC ss 1)) => (show Below w13.heap.size w13 W' ∧ Below W.heap.size W W' ∧ ∃ A0 n0 c0 A1 n1 c1, e = .returned (.agg #[.slice A0 n0 c0, .slice A1 n1 c1]) ∧ InRow W' W.heap.size A0 n0 c0 (inputsC ss 0) ∧ InRow W' W.heap.size A1 n1 c1 (inputsC ss 1) from ⟨hW.trans (h.1.mono hW.size), h⟩)))
        have HIU0 := Lib.hid (fun W (hW : Below w13.heap.size w13 W) => inputs_any UA2 VA2 (ns + 2) (ne + 2) uc2 vc2 (ss ++ moreS moreB ne) W HLS2.out (by omega) (HU13.out.next hW).rd HSM2.out)
        have HIU := Lib.hid (fun W (hW : Below w13.heap.size w13 W) => (HIU0.out W hW).mono (fun e W' (h : Below W.heap.size W W' ∧ ∃ A0 n0 c0 A1 n1 c1, e = .returned (.agg #[.slice A0 n0 c0, .slice A1 n1 c1]) ∧ InRow W' W.heap.size A0 n0 c0 (inputsC (ss ++ moreS moreB ne) 0) ∧ InRow W' W.heap.size A1 n1 c1 (inputsC (ss ++ moreS moreB ne) 1)) => (show Below w13.heap.size w13 W' ∧ Below W.heap.size W W' ∧ ∃ A0 n0 c0 A1 n1 c1, e = .returned (.agg #[.slice A0 n0 c0, .slice A1 n1 c1]) ∧ InRow W' W.heap.size A0 n0 c0 (inputsC ss 0) ∧ InRow W' W.heap.size A1 n1 c1 (inputsC ss 1) from by rw [inputsC_more, inputsC_more] at h; exact ⟨hW.trans (h.1.mono hW.size), h⟩)))
        clear HIU0 HSM2
        have HTB13 := Lib.hid (HTB.out _ HB313.out)
        go_cut [11, 12] (fun s11 s12 wx => MoreCut w13 (inputsC ss 0) (inputsC ss 1) (inputsC ss 0) (inputsC ss 1) s11 s12 wx)
        case first =>
          have HSS := Lib.hid (fun W (hW : Below w13.heap.size w13 W) => show (fun W => W.cell? ⟨tb, 0, none⟩ = some (.slice SA ns sc) ∧ W.cell? ⟨tb, 1, none⟩ = some (.slice EA ne ec) ∧ W.cell? ⟨ub, 0, none⟩ = some (.slice UA2 (ns + 2) uc2) ∧ W.cell? ⟨ub, 1, none⟩ = some (.slice VA2 (ne + 2) vc2)) W from ⟨cell_of_row _ _ 0 _ _ _ ((hW.block _ (Array.getElem?_eq_some_iff.1 HTB13.out).1).trans HTB13.out), cell_of_row _ _ 1 _ _ _ ((hW.block _ (Array.getElem?_eq_some_iff.1 HTB13.out).1).trans HTB13.out), cell_of_row _ _ 0 _ _ _ ((hW.block _ (Array.getElem?_eq_some_iff.1 HUB13.out).1).trans HUB13.out), cell_of_row _ _ 1 _ _ _ ((hW.block _ (Array.getElem?_eq_some_iff.1 HUB13.out).1).trans HUB13.out)⟩)
          obtain ⟨v0, hv0⟩ : ∃ v0, v0 = w13.drew := ⟨_, rfl⟩
          have BEv0 := Lib.hid (show Below w13.heap.size w13 v0 from by rw [hv0]; exact (Below.refl _ w13).drew)
          refine wp_region_held_drew (S := (fun W => W.cell? ⟨tb, 0, none⟩ = some (.slice SA ns sc) ∧ W.cell? ⟨tb, 1, none⟩ = some (.slice EA ne ec) ∧ W.cell? ⟨ub, 0, none⟩ = some (.slice UA2 (ns + 2) uc2) ∧ W.cell? ⟨ub, 1, none⟩ = some (.slice VA2 (ne + 2) vc2))) (by kernel_rfl) (HSS.out _ (Below.refl _ w13).drew) (fun hHeld => ?_)
          rw [← hv0] at hHeld ⊢
          clear hv0
          refine wpAnyH_take (i := 0) (oi := ⟨some 66, _, _, _, _, _⟩) (v := ?v1) rfl (by kernel_rfl) (by kernel_rfl) (by kernel_rfl) (fun _ _ _ h => h) ?y1 (by assumption) ?r1
          case y1 => refine Or.inl ⟨by kernel_rfl, fun w hSw => ?_⟩; (try dsimp only at hSw); go_simp; (try with_reducible rfl)
          simp only [Act.put, List.setIfInBounds_toArray, List.set_cons_zero, List.set_cons_succ]
          refine wpAnyH_take (i := 2) (oi := ⟨some 68, _, _, _, _, _⟩) (v := ?v2) rfl (by kernel_rfl) (by kernel_rfl) (by kernel_rfl) (fun _ _ _ h => h) ?y2 (by assumption) ?r2
          case y2 => refine Or.inl ⟨by kernel_rfl, fun w hSw => ?_⟩; (try dsimp only at hSw); go_simp; (try with_reducible rfl)
          simp only [Act.put, List.setIfInBounds_toArray, List.set_cons_zero, List.set_cons_succ]
          refine wpAnyH_ready (rs := [1, 4, 5]) (by kernel_rfl) (by simp) ?_
          refine AllReadyH.cons (o := _) rfl (fun K hK => ?_) (AllReadyH.cons (o := _) rfl (fun K hK => ?_) (AllReadyH.cons (o := _) rfl (fun K hK => ?_) (AllReadyH.nil)))
          · go_simp
            go_at_call 17
            refine (HIN.out _ BEv0.out).mono ?_
            rintro e v1 ⟨B6, b6, AI0, nI0, cI0, AI1, nI1, cI1, rfl, r0, r1⟩
            have BEv1 := Lib.hid B6
            have BXv1 := Lib.hid b6
            have HI0 := Lib.hid r0
            have HI1 := Lib.hid r1
            refine hK.out _ _ (HSS.out _ BEv1.out) (fun hHeld => ?_)
            clear hK K B6 b6 r0 r1
            try simp only [Act.put, List.setIfInBounds_toArray, List.set_cons_zero, List.set_cons_succ]
            refine wpAnyH_ready (rs := [3, 4, 5]) (by kernel_rfl) (by simp) ?_
            refine AllReadyH.cons (o := _) rfl (fun K hK => ?_) (AllReadyH.cons (o := _) rfl (fun K hK => ?_) (AllReadyH.cons (o := _) rfl (fun K hK => ?_) (AllReadyH.nil)))
            · go_simp
              go_at_call 17
              refine (HIU.out _ BEv1.out).mono ?_
              rintro e v2 ⟨B6, b6, AJ0, nJ0, cJ0, AJ1, nJ1, cJ1, rfl, r0, r1⟩
              have BEv2 := Lib.hid B6
              have BXv2 := Lib.hid b6
              have HJ0 := Lib.hid r0
              have HJ1 := Lib.hid r1
              refine hK.out _ _ (HSS.out _ BEv2.out) (fun hHeld => ?_)
              clear hK K B6 b6 r0 r1
              try simp only [Act.put, List.setIfInBounds_toArray, List.set_cons_zero, List.set_cons_succ]
              replace HI0 := Lib.hid (HI0.out.next BXv2.out)
              replace HI1 := Lib.hid (HI1.out.next BXv2.out)
              refine wpAnyH_ready (rs := [4, 5]) (by kernel_rfl) (by simp) ?_
              refine AllReadyH.cons (o := _) rfl (fun K hK => ?_) (AllReadyH.cons (o := _) rfl (fun K hK => ?_) (AllReadyH.nil))
              · go_simp
                obtain ⟨v3, hv⟩ : ∃ v3, v3 = v2.alloc (.cells #[.slice none 0 0, .slice none 0 0] 50) := ⟨_, rfl⟩
                rw [← hv]
                have BXv3 := Lib.hid (show Below v2.heap.size v2 v3 from by rw [hv]; exact (Below.refl _ _).alloc (Nat.le_refl _) _)
                have BEv3 := Lib.hid (bnext BEv2.out BXv3.out)
                have Z4 := Lib.hid (show ZC v3 v2.heap.size from by rw [hv]; exact ZC.new _)
                refine hK.out _ _ (HSS.out _ BEv3.out) (fun hHeld => ?_)
                clear hK K hv
                try simp only [Act.put, List.setIfInBounds_toArray, List.set_cons_zero, List.set_cons_succ]
                replace HI0 := Lib.hid (HI0.out.next BXv3.out)
                replace HI1 := Lib.hid (HI1.out.next BXv3.out)
                replace HJ0 := Lib.hid (HJ0.out.next BXv3.out)
                replace HJ1 := Lib.hid (HJ1.out.next BXv3.out)
                refine wpAnyH_ready (rs := [5]) (by kernel_rfl) (by simp) ?_
                refine AllReadyH.cons (o := _) rfl (fun K hK => ?_) (AllReadyH.nil)
                · go_simp
                  have hne : v2.heap.size ≠ v3.heap.size := Nat.ne_of_lt Z4.out.lt
                  obtain ⟨v4, hv⟩ : ∃ v4, v4 = v3.alloc (.cells #[.slice none 0 0, .slice none 0 0] 50) := ⟨_, rfl⟩
                  rw [← hv]
                  have BXv4 := Lib.hid (show Below v3.heap.size v3 v4 from by rw [hv]; exact (Below.refl _ _).alloc (Nat.le_refl _) _)
                  have BEv4 := Lib.hid (bnext BEv3.out BXv4.out)
                  have Z5 := Lib.hid (show ZC v4 v3.heap.size from by rw [hv]; exact ZC.new _)
                  refine hK.out _ _ (HSS.out _ BEv4.out) (fun hHeld => ?_)
                  clear hK K hv
                  try simp only [Act.put, List.setIfInBounds_toArray, List.set_cons_zero, List.set_cons_succ]
                  replace Z4 := Lib.hid (Z4.out.next BXv4.out)
                  replace HI0 := Lib.hid (HI0.out.next BXv4.out)
                  replace HI1 := Lib.hid (HI1.out.next BXv4.out)
                  replace HJ0 := Lib.hid (HJ0.out.next BXv4.out)
                  replace HJ1 := Lib.hid (HJ1.out.next BXv4.out)
                  have g4 : w13.heap.size ≤ v2.heap.size := BEv2.out.size
                  have g5 : w13.heap.size ≤ v3.heap.size := BEv3.out.size
                  obtain ⟨y0, y1, yf⟩ := Z4.out.facts
                  obtain ⟨a1, a2, a3, a4⟩ := store_arr Z4.out (.slice AI0 nI0 cI0) (.slice AI1 nI1 cI1)
                  refine wpAnyH_ready (rs := [6]) (by kernel_rfl) (by simp) ?_
                  refine AllReadyH.cons (o := _) rfl (fun K hK => ?_) (AllReadyH.nil)
                  go_simp
                  obtain ⟨x1, hx1⟩ : ∃ x1, x1 = (v4.setCell ⟨v2.heap.size, 0, none⟩ (.slice AI0 nI0 cI0)).setCell ⟨v2.heap.size, 1, none⟩ (.slice AI1 nI1 cI1) := ⟨_, rfl⟩
                  rw [← hx1] at a1 a3 ⊢
                  have k4 := a4 BEv4.out g4
                  rw [← hx1] at k4
                  have kI0 := a2 HI0.out
                  rw [← hx1] at kI0
                  have kI1 := a2 HI1.out
                  rw [← hx1] at kI1
                  have kJ0 := a2 HJ0.out
                  rw [← hx1] at kJ0
                  have kJ1 := a2 HJ1.out
                  rw [← hx1] at kJ1
                  have z5 : ZC x1 v3.heap.size := (a3 _ (fun e => hne e.symm)).trans Z5.out
                  refine hK.out _ _ (HSS.out _ k4) (fun hHeld => ?_)
                  clear hK K y0 y1 yf a2 a4 hx1
                  try simp only [Act.put, List.setIfInBounds_toArray, List.set_cons_zero, List.set_cons_succ]
                  obtain ⟨y0, y1, yf⟩ := z5.facts
                  obtain ⟨e1, e2, e3, e4⟩ := store_arr z5 (.slice AJ0 nJ0 cJ0) (.slice AJ1 nJ1 cJ1)
                  refine wpAnyH_ready (rs := [7]) (by kernel_rfl) (by simp) ?_
                  refine AllReadyH.cons (o := _) rfl (fun K hK => ?_) (AllReadyH.nil)
                  go_simp
                  obtain ⟨x2, hx2⟩ : ∃ x2, x2 = (x1.setCell ⟨v3.heap.size, 0, none⟩ (.slice AJ0 nJ0 cJ0)).setCell ⟨v3.heap.size, 1, none⟩ (.slice AJ1 nJ1 cJ1) := ⟨_, rfl⟩
                  rw [← hx2] at e1 e3 ⊢
                  have q4 := e4 k4 g5
                  rw [← hx2] at q4
                  have mI0 := e2 kI0
                  rw [← hx2] at mI0
                  have mI1 := e2 kI1
                  rw [← hx2] at mI1
                  have mJ0 := e2 kJ0
                  rw [← hx2] at mJ0
                  have mJ1 := e2 kJ1
                  rw [← hx2] at mJ1
                  refine hK.out _ _ (HSS.out _ q4) (fun hHeld => ?_)
                  clear hK K y0 y1 yf hx2
                  try simp only [Act.put, List.setIfInBounds_toArray, List.set_cons_zero, List.set_cons_succ]
                  refine wpAnyH_done (by kernel_rfl) ?_ _
                  go_wp2_with fail
                  go_meet
                  exact ⟨v2.heap.size, v3.heap.size, AI0, nI0, cI0, AI1, nI1, cI1, AJ0, nJ0, cJ0, AJ1, nJ1, cJ1, rfl, rfl, q4, (e3 _ hne).trans a1, e1, mI0.rdsh (HSL.out 0), mI1.rdsh (HSL.out 1), mJ0.rdsh (HSL.out 0), mJ1.rdsh (HSL.out 1)⟩
              · go_simp
                obtain ⟨v5, hv⟩ : ∃ v5, v5 = v2.alloc (.cells #[.slice none 0 0, .slice none 0 0] 50) := ⟨_, rfl⟩
                rw [← hv]
                have BXv5 := Lib.hid (show Below v2.heap.size v2 v5 from by rw [hv]; exact (Below.refl _ _).alloc (Nat.le_refl _) _)
                have BEv5 := Lib.hid (bnext BEv2.out BXv5.out)
                have Z5 := Lib.hid (show ZC v5 v2.heap.size from by rw [hv]; exact ZC.new _)
                refine hK.out _ _ (HSS.out _ BEv5.out) (fun hHeld => ?_)
                clear hK K hv
                try simp only [Act.put, List.setIfInBounds_toArray, List.set_cons_zero, List.set_cons_succ]
                replace HI0 := Lib.hid (HI0.out.next BXv5.out)
                replace HI1 := Lib.hid (HI1.out.next BXv5.out)
                replace HJ0 := Lib.hid (HJ0.out.next BXv5.out)
                replace HJ1 := Lib.hid (HJ1.out.next BXv5.out)
                refine wpAnyH_ready (rs := [4]) (by kernel_rfl) (by simp) ?_
                refine AllReadyH.cons (o := _) rfl (fun K hK => ?_) (AllReadyH.nil)
                · go_simp
                  have hne : v5.heap.size ≠ v2.heap.size := fun e => Nat.ne_of_lt Z5.out.lt e.symm
                  obtain ⟨v6, hv⟩ : ∃ v6, v6 = v5.alloc (.cells #[.slice none 0 0, .slice none 0 0] 50) := ⟨_, rfl⟩
                  rw [← hv]
                  have BXv6 := Lib.hid (show Below v5.heap.size v5 v6 from by rw [hv]; exact (Below.refl _ _).alloc (Nat.le_refl _) _)
                  have BEv6 := Lib.hid (bnext BEv5.out BXv6.out)
                  have Z4 := Lib.hid (show ZC v6 v5.heap.size from by rw [hv]; exact ZC.new _)
                  refine hK.out _ _ (HSS.out _ BEv6.out) (fun hHeld => ?_)
                  clear hK K hv
                  try simp only [Act.put, List.setIfInBounds_toArray, List.set_cons_zero, List.set_cons_succ]
                  replace Z5 := Lib.hid (Z5.out.next BXv6.out)
                  replace HI0 := Lib.hid (HI0.out.next BXv6.out)
                  replace HI1 := Lib.hid (HI1.out.next BXv6.out)
                  replace HJ0 := Lib.hid (HJ0.out.next BXv6.out)
                  replace HJ1 := Lib.hid (HJ1.out.next BXv6.out)
                  have g4 : w13.heap.size ≤ v5.heap.size := BEv5.out.size
                  have g5 : w13.heap.size ≤ v2.heap.size := BEv2.out.size
                  obtain ⟨y0, y1, yf⟩ := Z4.out.facts
                  obtain ⟨a1, a2, a3, a4⟩ := store_arr Z4.out (.slice AI0 nI0 cI0) (.slice AI1 nI1 cI1)
                  refine wpAnyH_ready (rs := [6]) (by kernel_rfl) (by simp) ?_
                  refine AllReadyH.cons (o := _) rfl (fun K hK => ?_) (AllReadyH.nil)
                  go_simp
                  obtain ⟨x1, hx1⟩ : ∃ x1, x1 = (v6.setCell ⟨v5.heap.size, 0, none⟩ (.slice AI0 nI0 cI0)).setCell ⟨v5.heap.size, 1, none⟩ (.slice AI1 nI1 cI1) := ⟨_, rfl⟩
                  rw [← hx1] at a1 a3 ⊢
                  have k4 := a4 BEv6.out g4
                  rw [← hx1] at k4
                  have kI0 := a2 HI0.out
                  rw [← hx1] at kI0
                  have kI1 := a2 HI1.out
                  rw [← hx1] at kI1
                  have kJ0 := a2 HJ0.out
                  rw [← hx1] at kJ0
                  have kJ1 := a2 HJ1.out
                  rw [← hx1] at kJ1
                  have z5 : ZC x1 v2.heap.size := (a3 _ (fun e => hne e.symm)).trans Z5.out
                  refine hK.out _ _ (HSS.out _ k4) (fun hHeld => ?_)
                  clear hK K y0 y1 yf a2 a4 hx1
                  try simp only [Act.put, List.setIfInBounds_toArray, List.set_cons_zero, List.set_cons_succ]
                  obtain ⟨y0, y1, yf⟩ := z5.facts
                  obtain ⟨e1, e2, e3, e4⟩ := store_arr z5 (.slice AJ0 nJ0 cJ0) (.slice AJ1 nJ1 cJ1)
                  refine wpAnyH_ready (rs := [7]) (by kernel_rfl) (by simp) ?_
                  refine AllReadyH.cons (o := _) rfl (fun K hK => ?_) (AllReadyH.nil)
                  go_simp
                  obtain ⟨x2, hx2⟩ : ∃ x2, x2 = (x1.setCell ⟨v2.heap.size, 0, none⟩ (.slice AJ0 nJ0 cJ0)).setCell ⟨v2.heap.size, 1, none⟩ (.slice AJ1 nJ1 cJ1) := ⟨_, rfl⟩
                  rw [← hx2] at e1 e3 ⊢
                  have q4 := e4 k4 g5
                  rw [← hx2] at q4
                  have mI0 := e2 kI0
                  rw [← hx2] at mI0
                  have mI1 := e2 kI1
                  rw [← hx2] at mI1
                  have mJ0 := e2 kJ0
                  rw [← hx2] at mJ0
                  have mJ1 := e2 kJ1
                  rw [← hx2] at mJ1
                  refine hK.out _ _ (HSS.out _ q4) (fun hHeld => ?_)
                  clear hK K y0 y1 yf hx2
                  try simp only [Act.put, List.setIfInBounds_toArray, List.set_cons_zero, List.set_cons_succ]
                  refine wpAnyH_done (by kernel_rfl) ?_ _
                  go_wp2_with fail
                  go_meet
                  exact ⟨v5.heap.size, v2.heap.size, AI0, nI0, cI0, AI1, nI1, cI1, AJ0, nJ0, cJ0, AJ1, nJ1, cJ1, rfl, rfl, q4, (e3 _ hne).trans a1, e1, mI0.rdsh (HSL.out 0), mI1.rdsh (HSL.out 1), mJ0.rdsh (HSL.out 0), mJ1.rdsh (HSL.out 1)⟩
            · go_simp
              obtain ⟨v7, hv⟩ : ∃ v7, v7 = v1.alloc (.cells #[.slice none 0 0, .slice none 0 0] 50) := ⟨_, rfl⟩
              rw [← hv]
              have BXv7 := Lib.hid (show Below v1.heap.size v1 v7 from by rw [hv]; exact (Below.refl _ _).alloc (Nat.le_refl _) _)
              have BEv7 := Lib.hid (bnext BEv1.out BXv7.out)
              have Z4 := Lib.hid (show ZC v7 v1.heap.size from by rw [hv]; exact ZC.new _)
              refine hK.out _ _ (HSS.out _ BEv7.out) (fun hHeld => ?_)
              clear hK K hv
              try simp only [Act.put, List.setIfInBounds_toArray, List.set_cons_zero, List.set_cons_succ]
              replace HI0 := Lib.hid (HI0.out.next BXv7.out)
              replace HI1 := Lib.hid (HI1.out.next BXv7.out)
              refine wpAnyH_ready (rs := [3, 5]) (by kernel_rfl) (by simp) ?_
              refine AllReadyH.cons (o := _) rfl (fun K hK => ?_) (AllReadyH.cons (o := _) rfl (fun K hK => ?_) (AllReadyH.nil))
              · go_simp
                go_at_call 17
                refine (HIU.out _ BEv7.out).mono ?_
                rintro e v8 ⟨B6, b6, AJ0, nJ0, cJ0, AJ1, nJ1, cJ1, rfl, r0, r1⟩
                have BEv8 := Lib.hid B6
                have BXv8 := Lib.hid b6
                have HJ0 := Lib.hid r0
                have HJ1 := Lib.hid r1
                refine hK.out _ _ (HSS.out _ BEv8.out) (fun hHeld => ?_)
                clear hK K B6 b6 r0 r1
                try simp only [Act.put, List.setIfInBounds_toArray, List.set_cons_zero, List.set_cons_succ]
                replace Z4 := Lib.hid (Z4.out.next BXv8.out)
                replace HI0 := Lib.hid (HI0.out.next BXv8.out)
                replace HI1 := Lib.hid (HI1.out.next BXv8.out)
                refine wpAnyH_ready (rs := [5]) (by kernel_rfl) (by simp) ?_
                refine AllReadyH.cons (o := _) rfl (fun K hK => ?_) (AllReadyH.nil)
                · go_simp
                  have hne : v1.heap.size ≠ v8.heap.size := Nat.ne_of_lt Z4.out.lt
                  obtain ⟨v9, hv⟩ : ∃ v9, v9 = v8.alloc (.cells #[.slice none 0 0, .slice none 0 0] 50) := ⟨_, rfl⟩
                  rw [← hv]
                  have BXv9 := Lib.hid (show Below v8.heap.size v8 v9 from by rw [hv]; exact (Below.refl _ _).alloc (Nat.le_refl _) _)
                  have BEv9 := Lib.hid (bnext BEv8.out BXv9.out)
                  have Z5 := Lib.hid (show ZC v9 v8.heap.size from by rw [hv]; exact ZC.new _)
                  refine hK.out _ _ (HSS.out _ BEv9.out) (fun hHeld => ?_)
                  clear hK K hv
                  try simp only [Act.put, List.setIfInBounds_toArray, List.set_cons_zero, List.set_cons_succ]
                  replace Z4 := Lib.hid (Z4.out.next BXv9.out)
                  replace HI0 := Lib.hid (HI0.out.next BXv9.out)
                  replace HI1 := Lib.hid (HI1.out.next BXv9.out)
                  replace HJ0 := Lib.hid (HJ0.out.next BXv9.out)
                  replace HJ1 := Lib.hid (HJ1.out.next BXv9.out)
                  have g4 : w13.heap.size ≤ v1.heap.size := BEv1.out.size
                  have g5 : w13.heap.size ≤ v8.heap.size := BEv8.out.size
                  obtain ⟨y0, y1, yf⟩ := Z4.out.facts
                  obtain ⟨a1, a2, a3, a4⟩ := store_arr Z4.out (.slice AI0 nI0 cI0) (.slice AI1 nI1 cI1)
                  refine wpAnyH_ready (rs := [6]) (by kernel_rfl) (by simp) ?_
                  refine AllReadyH.cons (o := _) rfl (fun K hK => ?_) (AllReadyH.nil)
                  go_simp
                  obtain ⟨x1, hx1⟩ : ∃ x1, x1 = (v9.setCell ⟨v1.heap.size, 0, none⟩ (.slice AI0 nI0 cI0)).setCell ⟨v1.heap.size, 1, none⟩ (.slice AI1 nI1 cI1) := ⟨_, rfl⟩
                  rw [← hx1] at a1 a3 ⊢
                  have k4 := a4 BEv9.out g4
                  rw [← hx1] at k4
                  have kI0 := a2 HI0.out
                  rw [← hx1] at kI0
                  have kI1 := a2 HI1.out
                  rw [← hx1] at kI1
                  have kJ0 := a2 HJ0.out
                  rw [← hx1] at kJ0
                  have kJ1 := a2 HJ1.out
                  rw [← hx1] at kJ1
                  have z5 : ZC x1 v8.heap.size := (a3 _ (fun e => hne e.symm)).trans Z5.out
                  refine hK.out _ _ (HSS.out _ k4) (fun hHeld => ?_)
                  clear hK K y0 y1 yf a2 a4 hx1
                  try simp only [Act.put, List.setIfInBounds_toArray, List.set_cons_zero, List.set_cons_succ]
                  obtain ⟨y0, y1, yf⟩ := z5.facts
                  obtain ⟨e1, e2, e3, e4⟩ := store_arr z5 (.slice AJ0 nJ0 cJ0) (.slice AJ1 nJ1 cJ1)
                  refine wpAnyH_ready (rs := [7]) (by kernel_rfl) (by simp) ?_
                  refine AllReadyH.cons (o := _) rfl (fun K hK => ?_) (AllReadyH.nil)
                  go_simp
                  obtain ⟨x2, hx2⟩ : ∃ x2, x2 = (x1.setCell ⟨v8.heap.size, 0, none⟩ (.slice AJ0 nJ0 cJ0)).setCell ⟨v8.heap.size, 1, none⟩ (.slice AJ1 nJ1 cJ1) := ⟨_, rfl⟩
                  rw [← hx2] at e1 e3 ⊢
                  have q4 := e4 k4 g5
                  rw [← hx2] at q4
                  have mI0 := e2 kI0
                  rw [← hx2] at mI0
                  have mI1 := e2 kI1
                  rw [← hx2] at mI1
                  have mJ0 := e2 kJ0
                  rw [← hx2] at mJ0
                  have mJ1 := e2 kJ1
                  rw [← hx2] at mJ1
                  refine hK.out _ _ (HSS.out _ q4) (fun hHeld => ?_)
                  clear hK K y0 y1 yf hx2
                  try simp only [Act.put, List.setIfInBounds_toArray, List.set_cons_zero, List.set_cons_succ]
                  refine wpAnyH_done (by kernel_rfl) ?_ _
                  go_wp2_with fail
                  go_meet
                  exact ⟨v1.heap.size, v8.heap.size, AI0, nI0, cI0, AI1, nI1, cI1, AJ0, nJ0, cJ0, AJ1, nJ1, cJ1, rfl, rfl, q4, (e3 _ hne).trans a1, e1, mI0.rdsh (HSL.out 0), mI1.rdsh (HSL.out 1), mJ0.rdsh (HSL.out 0), mJ1.rdsh (HSL.out 1)⟩
              · go_simp
                have hne : v1.heap.size ≠ v7.heap.size := Nat.ne_of_lt Z4.out.lt
                obtain ⟨v10, hv⟩ : ∃ v10, v10 = v7.alloc (.cells #[.slice none 0 0, .slice none 0 0] 50) := ⟨_, rfl⟩
                rw [← hv]
                have BXv10 := Lib.hid (show Below v7.heap.size v7 v10 from by rw [hv]; exact (Below.refl _ _).alloc (Nat.le_refl _) _)
                have BEv10 := Lib.hid (bnext BEv7.out BXv10.out)
                have Z5 := Lib.hid (show ZC v10 v7.heap.size from by rw [hv]; exact ZC.new _)
                refine hK.out _ _ (HSS.out _ BEv10.out) (fun hHeld => ?_)
                clear hK K hv
                try simp only [Act.put, List.setIfInBounds_toArray, List.set_cons_zero, List.set_cons_succ]
                replace Z4 := Lib.hid (Z4.out.next BXv10.out)
                replace HI0 := Lib.hid (HI0.out.next BXv10.out)
                replace HI1 := Lib.hid (HI1.out.next BXv10.out)
                refine wpAnyH_ready (rs := [3]) (by kernel_rfl) (by simp) ?_
                refine AllReadyH.cons (o := _) rfl (fun K hK => ?_) (AllReadyH.nil)
                · go_simp
                  go_at_call 17
                  refine (HIU.out _ BEv10.out).mono ?_
                  rintro e v11 ⟨B6, b6, AJ0, nJ0, cJ0, AJ1, nJ1, cJ1, rfl, r0, r1⟩
                  have BEv11 := Lib.hid B6
                  have BXv11 := Lib.hid b6
                  have HJ0 := Lib.hid r0
                  have HJ1 := Lib.hid r1
                  refine hK.out _ _ (HSS.out _ BEv11.out) (fun hHeld => ?_)
                  clear hK K B6 b6 r0 r1
                  try simp only [Act.put, List.setIfInBounds_toArray, List.set_cons_zero, List.set_cons_succ]
                  replace Z4 := Lib.hid (Z4.out.next BXv11.out)
                  replace Z5 := Lib.hid (Z5.out.next BXv11.out)
                  replace HI0 := Lib.hid (HI0.out.next BXv11.out)
                  replace HI1 := Lib.hid (HI1.out.next BXv11.out)
                  have g4 : w13.heap.size ≤ v1.heap.size := BEv1.out.size
                  have g5 : w13.heap.size ≤ v7.heap.size := BEv7.out.size
                  obtain ⟨y0, y1, yf⟩ := Z4.out.facts
                  obtain ⟨a1, a2, a3, a4⟩ := store_arr Z4.out (.slice AI0 nI0 cI0) (.slice AI1 nI1 cI1)
                  refine wpAnyH_ready (rs := [6]) (by kernel_rfl) (by simp) ?_
                  refine AllReadyH.cons (o := _) rfl (fun K hK => ?_) (AllReadyH.nil)
                  go_simp
                  obtain ⟨x1, hx1⟩ : ∃ x1, x1 = (v11.setCell ⟨v1.heap.size, 0, none⟩ (.slice AI0 nI0 cI0)).setCell ⟨v1.heap.size, 1, none⟩ (.slice AI1 nI1 cI1) := ⟨_, rfl⟩
                  rw [← hx1] at a1 a3 ⊢
                  have k4 := a4 BEv11.out g4
                  rw [← hx1] at k4
                  have kI0 := a2 HI0.out
                  rw [← hx1] at kI0
                  have kI1 := a2 HI1.out
                  rw [← hx1] at kI1
                  have kJ0 := a2 HJ0.out
                  rw [← hx1] at kJ0
                  have kJ1 := a2 HJ1.out
                  rw [← hx1] at kJ1
                  have z5 : ZC x1 v7.heap.size := (a3 _ (fun e => hne e.symm)).trans Z5.out
                  refine hK.out _ _ (HSS.out _ k4) (fun hHeld => ?_)
                  clear hK K y0 y1 yf a2 a4 hx1
                  try simp only [Act.put, List.setIfInBounds_toArray, List.set_cons_zero, List.set_cons_succ]
                  obtain ⟨y0, y1, yf⟩ := z5.facts
                  obtain ⟨e1, e2, e3, e4⟩ := store_arr z5 (.slice AJ0 nJ0 cJ0) (.slice AJ1 nJ1 cJ1)
                  refine wpAnyH_ready (rs := [7]) (by kernel_rfl) (by simp) ?_
                  refine AllReadyH.cons (o := _) rfl (fun K hK => ?_) (AllReadyH.nil)
                  go_simp
                  obtain ⟨x2, hx2⟩ : ∃ x2, x2 = (x1.setCell ⟨v7.heap.size, 0, none⟩ (.slice AJ0 nJ0 cJ0)).setCell ⟨v7.heap.size, 1, none⟩ (.slice AJ1 nJ1 cJ1) := ⟨_, rfl⟩
                  rw [← hx2] at e1 e3 ⊢
                  have q4 := e4 k4 g5
                  rw [← hx2] at q4
                  have mI0 := e2 kI0
                  rw [← hx2] at mI0
                  have mI1 := e2 kI1
                  rw [← hx2] at mI1
                  have mJ0 := e2 kJ0
                  rw [← hx2] at mJ0
                  have mJ1 := e2 kJ1
                  rw [← hx2] at mJ1
                  refine hK.out _ _ (HSS.out _ q4) (fun hHeld => ?_)
                  clear hK K y0 y1 yf hx2
                  try simp only [Act.put, List.setIfInBounds_toArray, List.set_cons_zero, List.set_cons_succ]
                  refine wpAnyH_done (by kernel_rfl) ?_ _
                  go_wp2_with fail
                  go_meet
                  exact ⟨v1.heap.size, v7.heap.size, AI0, nI0, cI0, AI1, nI1, cI1, AJ0, nJ0, cJ0, AJ1, nJ1, cJ1, rfl, rfl, q4, (e3 _ hne).trans a1, e1, mI0.rdsh (HSL.out 0), mI1.rdsh (HSL.out 1), mJ0.rdsh (HSL.out 0), mJ1.rdsh (HSL.out 1)⟩
            · go_simp
              obtain ⟨v12, hv⟩ : ∃ v12, v12 = v1.alloc (.cells #[.slice none 0 0, .slice none 0 0] 50) := ⟨_, rfl⟩
              rw [← hv]
              have BXv12 := Lib.hid (show Below v1.heap.size v1 v12 from by rw [hv]; exact (Below.refl _ _).alloc (Nat.le_refl _) _)
              have BEv12 := Lib.hid (bnext BEv1.out BXv12.out)
              have Z5 := Lib.hid (show ZC v12 v1.heap.size from by rw [hv]; exact ZC.new _)
              refine hK.out _ _ (HSS.out _ BEv12.out) (fun hHeld => ?_)
              clear hK K hv
              try simp only [Act.put, List.setIfInBounds_toArray, List.set_cons_zero, List.set_cons_succ]
              replace HI0 := Lib.hid (HI0.out.next BXv12.out)
              replace HI1 := Lib.hid (HI1.out.next BXv12.out)
              refine wpAnyH_ready (rs := [3, 4]) (by kernel_rfl) (by simp) ?_
              refine AllReadyH.cons (o := _) rfl (fun K hK => ?_) (AllReadyH.cons (o := _) rfl (fun K hK => ?_) (AllReadyH.nil))
              · go_simp
                go_at_call 17
                refine (HIU.out _ BEv12.out).mono ?_
                rintro e v13 ⟨B6, b6, AJ0, nJ0, cJ0, AJ1, nJ1, cJ1, rfl, r0, r1⟩
                have BEv13 := Lib.hid B6
                have BXv13 := Lib.hid b6
                have HJ0 := Lib.hid r0
                have HJ1 := Lib.hid r1
                refine hK.out _ _ (HSS.out _ BEv13.out) (fun hHeld => ?_)
                clear hK K B6 b6 r0 r1
                try simp only [Act.put, List.setIfInBounds_toArray, List.set_cons_zero, List.set_cons_succ]
                replace Z5 := Lib.hid (Z5.out.next BXv13.out)
                replace HI0 := Lib.hid (HI0.out.next BXv13.out)
                replace HI1 := Lib.hid (HI1.out.next BXv13.out)
                refine wpAnyH_ready (rs := [4]) (by kernel_rfl) (by simp) ?_
                refine AllReadyH.cons (o := _) rfl (fun K hK => ?_) (AllReadyH.nil)
                · go_simp
                  have hne : v13.heap.size ≠ v1.heap.size := fun e => Nat.ne_of_lt Z5.out.lt e.symm
                  obtain ⟨v14, hv⟩ : ∃ v14, v14 = v13.alloc (.cells #[.slice none 0 0, .slice none 0 0] 50) := ⟨_, rfl⟩
                  rw [← hv]
                  have BXv14 := Lib.hid (show Below v13.heap.size v13 v14 from by rw [hv]; exact (Below.refl _ _).alloc (Nat.le_refl _) _)
                  have BEv14 := Lib.hid (bnext BEv13.out BXv14.out)
                  have Z4 := Lib.hid (show ZC v14 v13.heap.size from by rw [hv]; exact ZC.new _)
                  refine hK.out _ _ (HSS.out _ BEv14.out) (fun hHeld => ?_)
                  clear hK K hv
                  try simp only [Act.put, List.setIfInBounds_toArray, List.set_cons_zero, List.set_cons_succ]
                  replace Z5 := Lib.hid (Z5.out.next BXv14.out)
                  replace HI0 := Lib.hid (HI0.out.next BXv14.out)
                  replace HI1 := Lib.hid (HI1.out.next BXv14.out)
                  replace HJ0 := Lib.hid (HJ0.out.next BXv14.out)
                  replace HJ1 := Lib.hid (HJ1.out.next BXv14.out)
                  have g4 : w13.heap.size ≤ v13.heap.size := BEv13.out.size
                  have g5 : w13.heap.size ≤ v1.heap.size := BEv1.out.size
                  obtain ⟨y0, y1, yf⟩ := Z4.out.facts
                  obtain ⟨a1, a2, a3, a4⟩ := store_arr Z4.out (.slice AI0 nI0 cI0) (.slice AI1 nI1 cI1)
                  refine wpAnyH_ready (rs := [6]) (by kernel_rfl) (by simp) ?_
                  refine AllReadyH.cons (o := _) rfl (fun K hK => ?_) (AllReadyH.nil)
                  go_simp
                  obtain ⟨x1, hx1⟩ : ∃ x1, x1 = (v14.setCell ⟨v13.heap.size, 0, none⟩ (.slice AI0 nI0 cI0)).setCell ⟨v13.heap.size, 1, none⟩ (.slice AI1 nI1 cI1) := ⟨_, rfl⟩
                  rw [← hx1] at a1 a3 ⊢
                  have k4 := a4 BEv14.out g4
                  rw [← hx1] at k4
                  have kI0 := a2 HI0.out
                  rw [← hx1] at kI0
                  have kI1 := a2 HI1.out
                  rw [← hx1] at kI1
                  have kJ0 := a2 HJ0.out
                  rw [← hx1] at kJ0
                  have kJ1 := a2 HJ1.out
                  rw [← hx1] at kJ1
                  have z5 : ZC x1 v1.heap.size := (a3 _ (fun e => hne e.symm)).trans Z5.out
                  refine hK.out _ _ (HSS.out _ k4) (fun hHeld => ?_)
                  clear hK K y0 y1 yf a2 a4 hx1
                  try simp only [Act.put, List.setIfInBounds_toArray, List.set_cons_zero, List.set_cons_succ]
                  obtain ⟨y0, y1, yf⟩ := z5.facts
                  obtain ⟨e1, e2, e3, e4⟩ := store_arr z5 (.slice AJ0 nJ0 cJ0) (.slice AJ1 nJ1 cJ1)
                  refine wpAnyH_ready (rs := [7]) (by kernel_rfl) (by simp) ?_
                  refine AllReadyH.cons (o := _) rfl (fun K hK => ?_) (AllReadyH.nil)
                  go_simp
                  obtain ⟨x2, hx2⟩ : ∃ x2, x2 = (x1.setCell ⟨v1.heap.size, 0, none⟩ (.slice AJ0 nJ0 cJ0)).setCell ⟨v1.heap.size, 1, none⟩ (.slice AJ1 nJ1 cJ1) := ⟨_, rfl⟩
                  rw [← hx2] at e1 e3 ⊢
                  have q4 := e4 k4 g5
                  rw [← hx2] at q4
                  have mI0 := e2 kI0
                  rw [← hx2] at mI0
                  have mI1 := e2 kI1
                  rw [← hx2] at mI1
                  have mJ0 := e2 kJ0
                  rw [← hx2] at mJ0
                  have mJ1 := e2 kJ1
                  rw [← hx2] at mJ1
                  refine hK.out _ _ (HSS.out _ q4) (fun hHeld => ?_)
                  clear hK K y0 y1 yf hx2
                  try simp only [Act.put, List.setIfInBounds_toArray, List.set_cons_zero, List.set_cons_succ]
                  refine wpAnyH_done (by kernel_rfl) ?_ _
                  go_wp2_with fail
                  go_meet
                  exact ⟨v13.heap.size, v1.heap.size, AI0, nI0, cI0, AI1, nI1, cI1, AJ0, nJ0, cJ0, AJ1, nJ1, cJ1, rfl, rfl, q4, (e3 _ hne).trans a1, e1, mI0.rdsh (HSL.out 0), mI1.rdsh (HSL.out 1), mJ0.rdsh (HSL.out 0), mJ1.rdsh (HSL.out 1)⟩
              · go_simp
                have hne : v12.heap.size ≠ v1.heap.size := fun e => Nat.ne_of_lt Z5.out.lt e.symm
                obtain ⟨v15, hv⟩ : ∃ v15, v15 = v12.alloc (.cells #[.slice none 0 0, .slice none 0 0] 50) := ⟨_, rfl⟩
                rw [← hv]
                have BXv15 := Lib.hid (show Below v12.heap.size v12 v15 from by rw [hv]; exact (Below.refl _ _).alloc (Nat.le_refl _) _)
                have BEv15 := Lib.hid (bnext BEv12.out BXv15.out)
                have Z4 := Lib.hid (show ZC v15 v12.heap.size from by rw [hv]; exact ZC.new _)
                refine hK.out _ _ (HSS.out _ BEv15.out) (fun hHeld => ?_)
                clear hK K hv
                try simp only [Act.put, List.setIfInBounds_toArray, List.set_cons_zero, List.set_cons_succ]
                replace Z5 := Lib.hid (Z5.out.next BXv15.out)
                replace HI0 := Lib.hid (HI0.out.next BXv15.out)
                replace HI1 := Lib.hid (HI1.out.next BXv15.out)
                refine wpAnyH_ready (rs := [3]) (by kernel_rfl) (by simp) ?_
                refine AllReadyH.cons (o := _) rfl (fun K hK => ?_) (AllReadyH.nil)
                · go_simp
                  go_at_call 17
                  refine (HIU.out _ BEv15.out).mono ?_
                  rintro e v16 ⟨B6, b6, AJ0, nJ0, cJ0, AJ1, nJ1, cJ1, rfl, r0, r1⟩
                  have BEv16 := Lib.hid B6
                  have BXv16 := Lib.hid b6
                  have HJ0 := Lib.hid r0
                  have HJ1 := Lib.hid r1
                  refine hK.out _ _ (HSS.out _ BEv16.out) (fun hHeld => ?_)
                  clear hK K B6 b6 r0 r1
                  try simp only [Act.put, List.setIfInBounds_toArray, List.set_cons_zero, List.set_cons_succ]
                  replace Z4 := Lib.hid (Z4.out.next BXv16.out)
                  replace Z5 := Lib.hid (Z5.out.next BXv16.out)
                  replace HI0 := Lib.hid (HI0.out.next BXv16.out)
                  replace HI1 := Lib.hid (HI1.out.next BXv16.out)
                  have g4 : w13.heap.size ≤ v12.heap.size := BEv12.out.size
                  have g5 : w13.heap.size ≤ v1.heap.size := BEv1.out.size
                  obtain ⟨y0, y1, yf⟩ := Z4.out.facts
                  obtain ⟨a1, a2, a3, a4⟩ := store_arr Z4.out (.slice AI0 nI0 cI0) (.slice AI1 nI1 cI1)
                  refine wpAnyH_ready (rs := [6]) (by kernel_rfl) (by simp) ?_
                  refine AllReadyH.cons (o := _) rfl (fun K hK => ?_) (AllReadyH.nil)
                  go_simp
                  obtain ⟨x1, hx1⟩ : ∃ x1, x1 = (v16.setCell ⟨v12.heap.size, 0, none⟩ (.slice AI0 nI0 cI0)).setCell ⟨v12.heap.size, 1, none⟩ (.slice AI1 nI1 cI1) := ⟨_, rfl⟩
                  rw [← hx1] at a1 a3 ⊢
                  have k4 := a4 BEv16.out g4
                  rw [← hx1] at k4
                  have kI0 := a2 HI0.out
                  rw [← hx1] at kI0
                  have kI1 := a2 HI1.out
                  rw [← hx1] at kI1
                  have kJ0 := a2 HJ0.out
                  rw [← hx1] at kJ0
                  have kJ1 := a2 HJ1.out
                  rw [← hx1] at kJ1
                  have z5 : ZC x1 v1.heap.size := (a3 _ (fun e => hne e.symm)).trans Z5.out
                  refine hK.out _ _ (HSS.out _ k4) (fun hHeld => ?_)
                  clear hK K y0 y1 yf a2 a4 hx1
                  try simp only [Act.put, List.setIfInBounds_toArray, List.set_cons_zero, List.set_cons_succ]
                  obtain ⟨y0, y1, yf⟩ := z5.facts
                  obtain ⟨e1, e2, e3, e4⟩ := store_arr z5 (.slice AJ0 nJ0 cJ0) (.slice AJ1 nJ1 cJ1)
                  refine wpAnyH_ready (rs := [7]) (by kernel_rfl) (by simp) ?_
                  refine AllReadyH.cons (o := _) rfl (fun K hK => ?_) (AllReadyH.nil)
                  go_simp
                  obtain ⟨x2, hx2⟩ : ∃ x2, x2 = (x1.setCell ⟨v1.heap.size, 0, none⟩ (.slice AJ0 nJ0 cJ0)).setCell ⟨v1.heap.size, 1, none⟩ (.slice AJ1 nJ1 cJ1) := ⟨_, rfl⟩
                  rw [← hx2] at e1 e3 ⊢
                  have q4 := e4 k4 g5
                  rw [← hx2] at q4
                  have mI0 := e2 kI0
                  rw [← hx2] at mI0
                  have mI1 := e2 kI1
                  rw [← hx2] at mI1
                  have mJ0 := e2 kJ0
                  rw [← hx2] at mJ0
                  have mJ1 := e2 kJ1
                  rw [← hx2] at mJ1
                  refine hK.out _ _ (HSS.out _ q4) (fun hHeld => ?_)
                  clear hK K y0 y1 yf hx2
                  try simp only [Act.put, List.setIfInBounds_toArray, List.set_cons_zero, List.set_cons_succ]
                  refine wpAnyH_done (by kernel_rfl) ?_ _
                  go_wp2_with fail
                  go_meet
                  exact ⟨v12.heap.size, v1.heap.size, AI0, nI0, cI0, AI1, nI1, cI1, AJ0, nJ0, cJ0, AJ1, nJ1, cJ1, rfl, rfl, q4, (e3 _ hne).trans a1, e1, mI0.rdsh (HSL.out 0), mI1.rdsh (HSL.out 1), mJ0.rdsh (HSL.out 0), mJ1.rdsh (HSL.out 1)⟩
          · go_simp
            obtain ⟨v17, hv⟩ : ∃ v17, v17 = v0.alloc (.cells #[.slice none 0 0, .slice none 0 0] 50) := ⟨_, rfl⟩
            rw [← hv]
            have BXv17 := Lib.hid (show Below v0.heap.size v0 v17 from by rw [hv]; exact (Below.refl _ _).alloc (Nat.le_refl _) _)
            have BEv17 := Lib.hid (bnext BEv0.out BXv17.out)
            have Z4 := Lib.hid (show ZC v17 v0.heap.size from by rw [hv]; exact ZC.new _)
            refine hK.out _ _ (HSS.out _ BEv17.out) (fun hHeld => ?_)
            clear hK K hv
            try simp only [Act.put, List.setIfInBounds_toArray, List.set_cons_zero, List.set_cons_succ]
            refine wpAnyH_ready (rs := [1, 5]) (by kernel_rfl) (by simp) ?_
            refine AllReadyH.cons (o := _) rfl (fun K hK => ?_) (AllReadyH.cons (o := _) rfl (fun K hK => ?_) (AllReadyH.nil))
            · go_simp
              go_at_call 17
              refine (HIN.out _ BEv17.out).mono ?_
              rintro e v18 ⟨B6, b6, AI0, nI0, cI0, AI1, nI1, cI1, rfl, r0, r1⟩
              have BEv18 := Lib.hid B6
              have BXv18 := Lib.hid b6
              have HI0 := Lib.hid r0
              have HI1 := Lib.hid r1
              refine hK.out _ _ (HSS.out _ BEv18.out) (fun hHeld => ?_)
              clear hK K B6 b6 r0 r1
              try simp only [Act.put, List.setIfInBounds_toArray, List.set_cons_zero, List.set_cons_succ]
              replace Z4 := Lib.hid (Z4.out.next BXv18.out)
              refine wpAnyH_ready (rs := [3, 5]) (by kernel_rfl) (by simp) ?_
              refine AllReadyH.cons (o := _) rfl (fun K hK => ?_) (AllReadyH.cons (o := _) rfl (fun K hK => ?_) (AllReadyH.nil))
              · go_simp
                go_at_call 17
                refine (HIU.out _ BEv18.out).mono ?_
                rintro e v19 ⟨B6, b6, AJ0, nJ0, cJ0, AJ1, nJ1, cJ1, rfl, r0, r1⟩
                have BEv19 := Lib.hid B6
                have BXv19 := Lib.hid b6
                have HJ0 := Lib.hid r0
                have HJ1 := Lib.hid r1
                refine hK.out _ _ (HSS.out _ BEv19.out) (fun hHeld => ?_)
                clear hK K B6 b6 r0 r1
                try simp only [Act.put, List.setIfInBounds_toArray, List.set_cons_zero, List.set_cons_succ]
                replace Z4 := Lib.hid (Z4.out.next BXv19.out)
                replace HI0 := Lib.hid (HI0.out.next BXv19.out)
                replace HI1 := Lib.hid (HI1.out.next BXv19.out)
                refine wpAnyH_ready (rs := [5]) (by kernel_rfl) (by simp) ?_
                refine AllReadyH.cons (o := _) rfl (fun K hK => ?_) (AllReadyH.nil)
                · go_simp
                  have hne : v0.heap.size ≠ v19.heap.size := Nat.ne_of_lt Z4.out.lt
                  obtain ⟨v20, hv⟩ : ∃ v20, v20 = v19.alloc (.cells #[.slice none 0 0, .slice none 0 0] 50) := ⟨_, rfl⟩
                  rw [← hv]
                  have BXv20 := Lib.hid (show Below v19.heap.size v19 v20 from by rw [hv]; exact (Below.refl _ _).alloc (Nat.le_refl _) _)
                  have BEv20 := Lib.hid (bnext BEv19.out BXv20.out)
                  have Z5 := Lib.hid (show ZC v20 v19.heap.size from by rw [hv]; exact ZC.new _)
                  refine hK.out _ _ (HSS.out _ BEv20.out) (fun hHeld => ?_)
                  clear hK K hv
                  try simp only [Act.put, List.setIfInBounds_toArray, List.set_cons_zero, List.set_cons_succ]
                  replace Z4 := Lib.hid (Z4.out.next BXv20.out)
                  replace HI0 := Lib.hid (HI0.out.next BXv20.out)
                  replace HI1 := Lib.hid (HI1.out.next BXv20.out)
                  replace HJ0 := Lib.hid (HJ0.out.next BXv20.out)
                  replace HJ1 := Lib.hid (HJ1.out.next BXv20.out)
                  have g4 : w13.heap.size ≤ v0.heap.size := BEv0.out.size
                  have g5 : w13.heap.size ≤ v19.heap.size := BEv19.out.size
                  obtain ⟨y0, y1, yf⟩ := Z4.out.facts
                  obtain ⟨a1, a2, a3, a4⟩ := store_arr Z4.out (.slice AI0 nI0 cI0) (.slice AI1 nI1 cI1)
                  refine wpAnyH_ready (rs := [6]) (by kernel_rfl) (by simp) ?_
                  refine AllReadyH.cons (o := _) rfl (fun K hK => ?_) (AllReadyH.nil)
                  go_simp
                  obtain ⟨x1, hx1⟩ : ∃ x1, x1 = (v20.setCell ⟨v0.heap.size, 0, none⟩ (.slice AI0 nI0 cI0)).setCell ⟨v0.heap.size, 1, none⟩ (.slice AI1 nI1 cI1) := ⟨_, rfl⟩
                  rw [← hx1] at a1 a3 ⊢
                  have k4 := a4 BEv20.out g4
                  rw [← hx1] at k4
                  have kI0 := a2 HI0.out
                  rw [← hx1] at kI0
                  have kI1 := a2 HI1.out
                  rw [← hx1] at kI1
                  have kJ0 := a2 HJ0.out
                  rw [← hx1] at kJ0
                  have kJ1 := a2 HJ1.out
                  rw [← hx1] at kJ1
                  have z5 : ZC x1 v19.heap.size := (a3 _ (fun e => hne e.symm)).trans Z5.out
                  refine hK.out _ _ (HSS.out _ k4) (fun hHeld => ?_)
                  clear hK K y0 y1 yf a2 a4 hx1
                  try simp only [Act.put, List.setIfInBounds_toArray, List.set_cons_zero, List.set_cons_succ]
                  obtain ⟨y0, y1, yf⟩ := z5.facts
                  obtain ⟨e1, e2, e3, e4⟩ := store_arr z5 (.slice AJ0 nJ0 cJ0) (.slice AJ1 nJ1 cJ1)
                  refine wpAnyH_ready (rs := [7]) (by kernel_rfl) (by simp) ?_
                  refine AllReadyH.cons (o := _) rfl (fun K hK => ?_) (AllReadyH.nil)
                  go_simp
                  obtain ⟨x2, hx2⟩ : ∃ x2, x2 = (x1.setCell ⟨v19.heap.size, 0, none⟩ (.slice AJ0 nJ0 cJ0)).setCell ⟨v19.heap.size, 1, none⟩ (.slice AJ1 nJ1 cJ1) := ⟨_, rfl⟩
                  rw [← hx2] at e1 e3 ⊢
                  have q4 := e4 k4 g5
                  rw [← hx2] at q4
                  have mI0 := e2 kI0
                  rw [← hx2] at mI0
                  have mI1 := e2 kI1
                  rw [← hx2] at mI1
                  have mJ0 := e2 kJ0
                  rw [← hx2] at mJ0
                  have mJ1 := e2 kJ1
                  rw [← hx2] at mJ1
                  refine hK.out _ _ (HSS.out _ q4) (fun hHeld => ?_)
                  clear hK K y0 y1 yf hx2
                  try simp only [Act.put, List.setIfInBounds_toArray, List.set_cons_zero, List.set_cons_succ]
                  refine wpAnyH_done (by kernel_rfl) ?_ _
                  go_wp2_with fail
                  go_meet
                  exact ⟨v0.heap.size, v19.heap.size, AI0, nI0, cI0, AI1, nI1, cI1, AJ0, nJ0, cJ0, AJ1, nJ1, cJ1, rfl, rfl, q4, (e3 _ hne).trans a1, e1, mI0.rdsh (HSL.out 0), mI1.rdsh (HSL.out 1), mJ0.rdsh (HSL.out 0), mJ1.rdsh (HSL.out 1)⟩
              · go_simp
                have hne : v0.heap.size ≠ v18.heap.size := Nat.ne_of_lt Z4.out.lt
                obtain ⟨v21, hv⟩ : ∃ v21, v21 = v18.alloc (.cells #[.slice none 0 0, .slice none 0 0] 50) := ⟨_, rfl⟩
                rw [← hv]
                have BXv21 := Lib.hid (show Below v18.heap.size v18 v21 from by rw [hv]; exact (Below.refl _ _).alloc (Nat.le_refl _) _)
                have BEv21 := Lib.hid (bnext BEv18.out BXv21.out)
                have Z5 := Lib.hid (show ZC v21 v18.heap.size from by rw [hv]; exact ZC.new _)
                refine hK.out _ _ (HSS.out _ BEv21.out) (fun hHeld => ?_)
                clear hK K hv
                try simp only [Act.put, List.setIfInBounds_toArray, List.set_cons_zero, List.set_cons_succ]
                replace Z4 := Lib.hid (Z4.out.next BXv21.out)
                replace HI0 := Lib.hid (HI0.out.next BXv21.out)
                replace HI1 := Lib.hid (HI1.out.next BXv21.out)
                refine wpAnyH_ready (rs := [3]) (by kernel_rfl) (by simp) ?_
                refine AllReadyH.cons (o := _) rfl (fun K hK => ?_) (AllReadyH.nil)
                · go_simp
                  go_at_call 17
                  refine (HIU.out _ BEv21.out).mono ?_
                  rintro e v22 ⟨B6, b6, AJ0, nJ0, cJ0, AJ1, nJ1, cJ1, rfl, r0, r1⟩
                  have BEv22 := Lib.hid B6
                  have BXv22 := Lib.hid b6
                  have HJ0 := Lib.hid r0
                  have HJ1 := Lib.hid r1
                  refine hK.out _ _ (HSS.out _ BEv22.out) (fun hHeld => ?_)
                  clear hK K B6 b6 r0 r1
                  try simp only [Act.put, List.setIfInBounds_toArray, List.set_cons_zero, List.set_cons_succ]
                  replace Z4 := Lib.hid (Z4.out.next BXv22.out)
                  replace Z5 := Lib.hid (Z5.out.next BXv22.out)
                  replace HI0 := Lib.hid (HI0.out.next BXv22.out)
                  replace HI1 := Lib.hid (HI1.out.next BXv22.out)
                  have g4 : w13.heap.size ≤ v0.heap.size := BEv0.out.size
                  have g5 : w13.heap.size ≤ v18.heap.size := BEv18.out.size
                  obtain ⟨y0, y1, yf⟩ := Z4.out.facts
                  obtain ⟨a1, a2, a3, a4⟩ := store_arr Z4.out (.slice AI0 nI0 cI0) (.slice AI1 nI1 cI1)
                  refine wpAnyH_ready (rs := [6]) (by kernel_rfl) (by simp) ?_
                  refine AllReadyH.cons (o := _) rfl (fun K hK => ?_) (AllReadyH.nil)
                  go_simp
                  obtain ⟨x1, hx1⟩ : ∃ x1, x1 = (v22.setCell ⟨v0.heap.size, 0, none⟩ (.slice AI0 nI0 cI0)).setCell ⟨v0.heap.size, 1, none⟩ (.slice AI1 nI1 cI1) := ⟨_, rfl⟩
                  rw [← hx1] at a1 a3 ⊢
                  have k4 := a4 BEv22.out g4
                  rw [← hx1] at k4
                  have kI0 := a2 HI0.out
                  rw [← hx1] at kI0
                  have kI1 := a2 HI1.out
                  rw [← hx1] at kI1
                  have kJ0 := a2 HJ0.out
                  rw [← hx1] at kJ0
                  have kJ1 := a2 HJ1.out
                  rw [← hx1] at kJ1
                  have z5 : ZC x1 v18.heap.size := (a3 _ (fun e => hne e.symm)).trans Z5.out
                  refine hK.out _ _ (HSS.out _ k4) (fun hHeld => ?_)
                  clear hK K y0 y1 yf a2 a4 hx1
                  try simp only [Act.put, List.setIfInBounds_toArray, List.set_cons_zero, List.set_cons_succ]
                  obtain ⟨y0, y1, yf⟩ := z5.facts
                  obtain ⟨e1, e2, e3, e4⟩ := store_arr z5 (.slice AJ0 nJ0 cJ0) (.slice AJ1 nJ1 cJ1)
                  refine wpAnyH_ready (rs := [7]) (by kernel_rfl) (by simp) ?_
                  refine AllReadyH.cons (o := _) rfl (fun K hK => ?_) (AllReadyH.nil)
                  go_simp
                  obtain ⟨x2, hx2⟩ : ∃ x2, x2 = (x1.setCell ⟨v18.heap.size, 0, none⟩ (.slice AJ0 nJ0 cJ0)).setCell ⟨v18.heap.size, 1, none⟩ (.slice AJ1 nJ1 cJ1) := ⟨_, rfl⟩
                  rw [← hx2] at e1 e3 ⊢
                  have q4 := e4 k4 g5
                  rw [← hx2] at q4
                  have mI0 := e2 kI0
                  rw [← hx2] at mI0
                  have mI1 := e2 kI1
                  rw [← hx2] at mI1
                  have mJ0 := e2 kJ0
                  rw [← hx2] at mJ0
                  have mJ1 := e2 kJ1
                  rw [← hx2] at mJ1
                  refine hK.out _ _ (HSS.out _ q4) (fun hHeld => ?_)
                  clear hK K y0 y1 yf hx2
                  try simp only [Act.put, List.setIfInBounds_toArray, List.set_cons_zero, List.set_cons_succ]
                  refine wpAnyH_done (by kernel_rfl) ?_ _
                  go_wp2_with fail
                  go_meet
                  exact ⟨v0.heap.size, v18.heap.size, AI0, nI0, cI0, AI1, nI1, cI1, AJ0, nJ0, cJ0, AJ1, nJ1, cJ1, rfl, rfl, q4, (e3 _ hne).trans a1, e1, mI0.rdsh (HSL.out 0), mI1.rdsh (HSL.out 1), mJ0.rdsh (HSL.out 0), mJ1.rdsh (HSL.out 1)⟩
            · go_simp
              have hne : v0.heap.size ≠ v17.heap.size := Nat.ne_of_lt Z4.out.lt
              obtain ⟨v23, hv⟩ : ∃ v23, v23 = v17.alloc (.cells #[.slice none 0 0, .slice none 0 0] 50) := ⟨_, rfl⟩
              rw [← hv]
              have BXv23 := Lib.hid (show Below v17.heap.size v17 v23 from by rw [hv]; exact (Below.refl _ _).alloc (Nat.le_refl _) _)
              have BEv23 := Lib.hid (bnext BEv17.out BXv23.out)
              have Z5 := Lib.hid (show ZC v23 v17.heap.size from by rw [hv]; exact ZC.new _)
              refine hK.out _ _ (HSS.out _ BEv23.out) (fun hHeld => ?_)
              clear hK K hv
              try simp only [Act.put, List.setIfInBounds_toArray, List.set_cons_zero, List.set_cons_succ]
              replace Z4 := Lib.hid (Z4.out.next BXv23.out)
              refine wpAnyH_ready (rs := [1]) (by kernel_rfl) (by simp) ?_
              refine AllReadyH.cons (o := _) rfl (fun K hK => ?_) (AllReadyH.nil)
              · go_simp
                go_at_call 17
                refine (HIN.out _ BEv23.out).mono ?_
                rintro e v24 ⟨B6, b6, AI0, nI0, cI0, AI1, nI1, cI1, rfl, r0, r1⟩
                have BEv24 := Lib.hid B6
                have BXv24 := Lib.hid b6
                have HI0 := Lib.hid r0
                have HI1 := Lib.hid r1
                refine hK.out _ _ (HSS.out _ BEv24.out) (fun hHeld => ?_)
                clear hK K B6 b6 r0 r1
                try simp only [Act.put, List.setIfInBounds_toArray, List.set_cons_zero, List.set_cons_succ]
                replace Z4 := Lib.hid (Z4.out.next BXv24.out)
                replace Z5 := Lib.hid (Z5.out.next BXv24.out)
                refine wpAnyH_ready (rs := [3]) (by kernel_rfl) (by simp) ?_
                refine AllReadyH.cons (o := _) rfl (fun K hK => ?_) (AllReadyH.nil)
                · go_simp
                  go_at_call 17
                  refine (HIU.out _ BEv24.out).mono ?_
                  rintro e v25 ⟨B6, b6, AJ0, nJ0, cJ0, AJ1, nJ1, cJ1, rfl, r0, r1⟩
                  have BEv25 := Lib.hid B6
                  have BXv25 := Lib.hid b6
                  have HJ0 := Lib.hid r0
                  have HJ1 := Lib.hid r1
                  refine hK.out _ _ (HSS.out _ BEv25.out) (fun hHeld => ?_)
                  clear hK K B6 b6 r0 r1
                  try simp only [Act.put, List.setIfInBounds_toArray, List.set_cons_zero, List.set_cons_succ]
                  replace Z4 := Lib.hid (Z4.out.next BXv25.out)
                  replace Z5 := Lib.hid (Z5.out.next BXv25.out)
                  replace HI0 := Lib.hid (HI0.out.next BXv25.out)
                  replace HI1 := Lib.hid (HI1.out.next BXv25.out)
                  have g4 : w13.heap.size ≤ v0.heap.size := BEv0.out.size
                  have g5 : w13.heap.size ≤ v17.heap.size := BEv17.out.size
                  obtain ⟨y0, y1, yf⟩ := Z4.out.facts
                  obtain ⟨a1, a2, a3, a4⟩ := store_arr Z4.out (.slice AI0 nI0 cI0) (.slice AI1 nI1 cI1)
                  refine wpAnyH_ready (rs := [6]) (by kernel_rfl) (by simp) ?_
                  refine AllReadyH.cons (o := _) rfl (fun K hK => ?_) (AllReadyH.nil)
                  go_simp
                  obtain ⟨x1, hx1⟩ : ∃ x1, x1 = (v25.setCell ⟨v0.heap.size, 0, none⟩ (.slice AI0 nI0 cI0)).setCell ⟨v0.heap.size, 1, none⟩ (.slice AI1 nI1 cI1) := ⟨_, rfl⟩
                  rw [← hx1] at a1 a3 ⊢
                  have k4 := a4 BEv25.out g4
                  rw [← hx1] at k4
                  have kI0 := a2 HI0.out
                  rw [← hx1] at kI0
                  have kI1 := a2 HI1.out
                  rw [← hx1] at kI1
                  have kJ0 := a2 HJ0.out
                  rw [← hx1] at kJ0
                  have kJ1 := a2 HJ1.out
                  rw [← hx1] at kJ1
                  have z5 : ZC x1 v17.heap.size := (a3 _ (fun e => hne e.symm)).trans Z5.out
                  refine hK.out _ _ (HSS.out _ k4) (fun hHeld => ?_)
                  clear hK K y0 y1 yf a2 a4 hx1
                  try simp only [Act.put, List.setIfInBounds_toArray, List.set_cons_zero, List.set_cons_succ]
                  obtain ⟨y0, y1, yf⟩ := z5.facts
                  obtain ⟨e1, e2, e3, e4⟩ := store_arr z5 (.slice AJ0 nJ0 cJ0) (.slice AJ1 nJ1 cJ1)
                  refine wpAnyH_ready (rs := [7]) (by kernel_rfl) (by simp) ?_
                  refine AllReadyH.cons (o := _) rfl (fun K hK => ?_) (AllReadyH.nil)
                  go_simp
                  obtain ⟨x2, hx2⟩ : ∃ x2, x2 = (x1.setCell ⟨v17.heap.size, 0, none⟩ (.slice AJ0 nJ0 cJ0)).setCell ⟨v17.heap.size, 1, none⟩ (.slice AJ1 nJ1 cJ1) := ⟨_, rfl⟩
                  rw [← hx2] at e1 e3 ⊢
                  have q4 := e4 k4 g5
                  rw [← hx2] at q4
                  have mI0 := e2 kI0
                  rw [← hx2] at mI0
                  have mI1 := e2 kI1
                  rw [← hx2] at mI1
                  have mJ0 := e2 kJ0
                  rw [← hx2] at mJ0
                  have mJ1 := e2 kJ1
                  rw [← hx2] at mJ1
                  refine hK.out _ _ (HSS.out _ q4) (fun hHeld => ?_)
                  clear hK K y0 y1 yf hx2
                  try simp only [Act.put, List.setIfInBounds_toArray, List.set_cons_zero, List.set_cons_succ]
                  refine wpAnyH_done (by kernel_rfl) ?_ _
                  go_wp2_with fail
                  go_meet
                  exact ⟨v0.heap.size, v17.heap.size, AI0, nI0, cI0, AI1, nI1, cI1, AJ0, nJ0, cJ0, AJ1, nJ1, cJ1, rfl, rfl, q4, (e3 _ hne).trans a1, e1, mI0.rdsh (HSL.out 0), mI1.rdsh (HSL.out 1), mJ0.rdsh (HSL.out 0), mJ1.rdsh (HSL.out 1)⟩
          · go_simp
            obtain ⟨v26, hv⟩ : ∃ v26, v26 = v0.alloc (.cells #[.slice none 0 0, .slice none 0 0] 50) := ⟨_, rfl⟩
            rw [← hv]
            have BXv26 := Lib.hid (show Below v0.heap.size v0 v26 from by rw [hv]; exact (Below.refl _ _).alloc (Nat.le_refl _) _)
            have BEv26 := Lib.hid (bnext BEv0.out BXv26.out)
            have Z5 := Lib.hid (show ZC v26 v0.heap.size from by rw [hv]; exact ZC.new _)
            refine hK.out _ _ (HSS.out _ BEv26.out) (fun hHeld => ?_)
            clear hK K hv
            try simp only [Act.put, List.setIfInBounds_toArray, List.set_cons_zero, List.set_cons_succ]
            refine wpAnyH_ready (rs := [1, 4]) (by kernel_rfl) (by simp) ?_
            refine AllReadyH.cons (o := _) rfl (fun K hK => ?_) (AllReadyH.cons (o := _) rfl (fun K hK => ?_) (AllReadyH.nil))
            · go_simp
              go_at_call 17
              refine (HIN.out _ BEv26.out).mono ?_
              rintro e v27 ⟨B6, b6, AI0, nI0, cI0, AI1, nI1, cI1, rfl, r0, r1⟩
              have BEv27 := Lib.hid B6
              have BXv27 := Lib.hid b6
              have HI0 := Lib.hid r0
              have HI1 := Lib.hid r1
              refine hK.out _ _ (HSS.out _ BEv27.out) (fun hHeld => ?_)
              clear hK K B6 b6 r0 r1
              try simp only [Act.put, List.setIfInBounds_toArray, List.set_cons_zero, List.set_cons_succ]
              replace Z5 := Lib.hid (Z5.out.next BXv27.out)
              refine wpAnyH_ready (rs := [3, 4]) (by kernel_rfl) (by simp) ?_
              refine AllReadyH.cons (o := _) rfl (fun K hK => ?_) (AllReadyH.cons (o := _) rfl (fun K hK => ?_) (AllReadyH.nil))
              · go_simp
                go_at_call 17
                refine (HIU.out _ BEv27.out).mono ?_
                rintro e v28 ⟨B6, b6, AJ0, nJ0, cJ0, AJ1, nJ1, cJ1, rfl, r0, r1⟩
                have BEv28 := Lib.hid B6
                have BXv28 := Lib.hid b6
                have HJ0 := Lib.hid r0
                have HJ1 := Lib.hid r1
                refine hK.out _ _ (HSS.out _ BEv28.out) (fun hHeld => ?_)
                clear hK K B6 b6 r0 r1
                try simp only [Act.put, List.setIfInBounds_toArray, List.set_cons_zero, List.set_cons_succ]
                replace Z5 := Lib.hid (Z5.out.next BXv28.out)
                replace HI0 := Lib.hid (HI0.out.next BXv28.out)
                replace HI1 := Lib.hid (HI1.out.next BXv28.out)
                refine wpAnyH_ready (rs := [4]) (by kernel_rfl) (by simp) ?_
                refine AllReadyH.cons (o := _) rfl (fun K hK => ?_) (AllReadyH.nil)
                · go_simp
                  have hne : v28.heap.size ≠ v0.heap.size := fun e => Nat.ne_of_lt Z5.out.lt e.symm
                  obtain ⟨v29, hv⟩ : ∃ v29, v29 = v28.alloc (.cells #[.slice none 0 0, .slice none 0 0] 50) := ⟨_, rfl⟩
                  rw [← hv]
                  have BXv29 := Lib.hid (show Below v28.heap.size v28 v29 from by rw [hv]; exact (Below.refl _ _).alloc (Nat.le_refl _) _)
                  have BEv29 := Lib.hid (bnext BEv28.out BXv29.out)
                  have Z4 := Lib.hid (show ZC v29 v28.heap.size from by rw [hv]; exact ZC.new _)
                  refine hK.out _ _ (HSS.out _ BEv29.out) (fun hHeld => ?_)
                  clear hK K hv
                  try simp only [Act.put, List.setIfInBounds_toArray, List.set_cons_zero, List.set_cons_succ]
                  replace Z5 := Lib.hid (Z5.out.next BXv29.out)
                  replace HI0 := Lib.hid (HI0.out.next BXv29.out)
                  replace HI1 := Lib.hid (HI1.out.next BXv29.out)
                  replace HJ0 := Lib.hid (HJ0.out.next BXv29.out)
                  replace HJ1 := Lib.hid (HJ1.out.next BXv29.out)
                  have g4 : w13.heap.size ≤ v28.heap.size := BEv28.out.size
                  have g5 : w13.heap.size ≤ v0.heap.size := BEv0.out.size
                  obtain ⟨y0, y1, yf⟩ := Z4.out.facts
                  obtain ⟨a1, a2, a3, a4⟩ := store_arr Z4.out (.slice AI0 nI0 cI0) (.slice AI1 nI1 cI1)
                  refine wpAnyH_ready (rs := [6]) (by kernel_rfl) (by simp) ?_
                  refine AllReadyH.cons (o := _) rfl (fun K hK => ?_) (AllReadyH.nil)
                  go_simp
                  obtain ⟨x1, hx1⟩ : ∃ x1, x1 = (v29.setCell ⟨v28.heap.size, 0, none⟩ (.slice AI0 nI0 cI0)).setCell ⟨v28.heap.size, 1, none⟩ (.slice AI1 nI1 cI1) := ⟨_, rfl⟩
                  rw [← hx1] at a1 a3 ⊢
                  have k4 := a4 BEv29.out g4
                  rw [← hx1] at k4
                  have kI0 := a2 HI0.out
                  rw [← hx1] at kI0
                  have kI1 := a2 HI1.out
                  rw [← hx1] at kI1
                  have kJ0 := a2 HJ0.out
                  rw [← hx1] at kJ0
                  have kJ1 := a2 HJ1.out
                  rw [← hx1] at kJ1
                  have z5 : ZC x1 v0.heap.size := (a3 _ (fun e => hne e.symm)).trans Z5.out
                  refine hK.out _ _ (HSS.out _ k4) (fun hHeld => ?_)
                  clear hK K y0 y1 yf a2 a4 hx1
                  try simp only [Act.put, List.setIfInBounds_toArray, List.set_cons_zero, List.set_cons_succ]
                  obtain ⟨y0, y1, yf⟩ := z5.facts
                  obtain ⟨e1, e2, e3, e4⟩ := store_arr z5 (.slice AJ0 nJ0 cJ0) (.slice AJ1 nJ1 cJ1)
                  refine wpAnyH_ready (rs := [7]) (by kernel_rfl) (by simp) ?_
                  refine AllReadyH.cons (o := _) rfl (fun K hK => ?_) (AllReadyH.nil)
                  go_simp
                  obtain ⟨x2, hx2⟩ : ∃ x2, x2 = (x1.setCell ⟨v0.heap.size, 0, none⟩ (.slice AJ0 nJ0 cJ0)).setCell ⟨v0.heap.size, 1, none⟩ (.slice AJ1 nJ1 cJ1) := ⟨_, rfl⟩
                  rw [← hx2] at e1 e3 ⊢
                  have q4 := e4 k4 g5
                  rw [← hx2] at q4
                  have mI0 := e2 kI0
                  rw [← hx2] at mI0
                  have mI1 := e2 kI1
                  rw [← hx2] at mI1
                  have mJ0 := e2 kJ0
                  rw [← hx2] at mJ0
                  have mJ1 := e2 kJ1
                  rw [← hx2] at mJ1
                  refine hK.out _ _ (HSS.out _ q4) (fun hHeld => ?_)
                  clear hK K y0 y1 yf hx2
                  try simp only [Act.put, List.setIfInBounds_toArray, List.set_cons_zero, List.set_cons_succ]
                  refine wpAnyH_done (by kernel_rfl) ?_ _
                  go_wp2_with fail
                  go_meet
                  exact ⟨v28.heap.size, v0.heap.size, AI0, nI0, cI0, AI1, nI1, cI1, AJ0, nJ0, cJ0, AJ1, nJ1, cJ1, rfl, rfl, q4, (e3 _ hne).trans a1, e1, mI0.rdsh (HSL.out 0), mI1.rdsh (HSL.out 1), mJ0.rdsh (HSL.out 0), mJ1.rdsh (HSL.out 1)⟩
              · go_simp
                have hne : v27.heap.size ≠ v0.heap.size := fun e => Nat.ne_of_lt Z5.out.lt e.symm
                obtain ⟨v30, hv⟩ : ∃ v30, v30 = v27.alloc (.cells #[.slice none 0 0, .slice none 0 0] 50) := ⟨_, rfl⟩
                rw [← hv]
                have BXv30 := Lib.hid (show Below v27.heap.size v27 v30 from by rw [hv]; exact (Below.refl _ _).alloc (Nat.le_refl _) _)
                have BEv30 := Lib.hid (bnext BEv27.out BXv30.out)
                have Z4 := Lib.hid (show ZC v30 v27.heap.size from by rw [hv]; exact ZC.new _)
                refine hK.out _ _ (HSS.out _ BEv30.out) (fun hHeld => ?_)
                clear hK K hv
                try simp only [Act.put, List.setIfInBounds_toArray, List.set_cons_zero, List.set_cons_succ]
                replace Z5 := Lib.hid (Z5.out.next BXv30.out)
                replace HI0 := Lib.hid (HI0.out.next BXv30.out)
                replace HI1 := Lib.hid (HI1.out.next BXv30.out)
                refine wpAnyH_ready (rs := [3]) (by kernel_rfl) (by simp) ?_
                refine AllReadyH.cons (o := _) rfl (fun K hK => ?_) (AllReadyH.nil)
                · go_simp
                  go_at_call 17
                  refine (HIU.out _ BEv30.out).mono ?_
                  rintro e v31 ⟨B6, b6, AJ0, nJ0, cJ0, AJ1, nJ1, cJ1, rfl, r0, r1⟩
                  have BEv31 := Lib.hid B6
                  have BXv31 := Lib.hid b6
                  have HJ0 := Lib.hid r0
                  have HJ1 := Lib.hid r1
                  refine hK.out _ _ (HSS.out _ BEv31.out) (fun hHeld => ?_)
                  clear hK K B6 b6 r0 r1
                  try simp only [Act.put, List.setIfInBounds_toArray, List.set_cons_zero, List.set_cons_succ]
                  replace Z4 := Lib.hid (Z4.out.next BXv31.out)
                  replace Z5 := Lib.hid (Z5.out.next BXv31.out)
                  replace HI0 := Lib.hid (HI0.out.next BXv31.out)
                  replace HI1 := Lib.hid (HI1.out.next BXv31.out)
                  have g4 : w13.heap.size ≤ v27.heap.size := BEv27.out.size
                  have g5 : w13.heap.size ≤ v0.heap.size := BEv0.out.size
                  obtain ⟨y0, y1, yf⟩ := Z4.out.facts
                  obtain ⟨a1, a2, a3, a4⟩ := store_arr Z4.out (.slice AI0 nI0 cI0) (.slice AI1 nI1 cI1)
                  refine wpAnyH_ready (rs := [6]) (by kernel_rfl) (by simp) ?_
                  refine AllReadyH.cons (o := _) rfl (fun K hK => ?_) (AllReadyH.nil)
                  go_simp
                  obtain ⟨x1, hx1⟩ : ∃ x1, x1 = (v31.setCell ⟨v27.heap.size, 0, none⟩ (.slice AI0 nI0 cI0)).setCell ⟨v27.heap.size, 1, none⟩ (.slice AI1 nI1 cI1) := ⟨_, rfl⟩
                  rw [← hx1] at a1 a3 ⊢
                  have k4 := a4 BEv31.out g4
                  rw [← hx1] at k4
                  have kI0 := a2 HI0.out
                  rw [← hx1] at kI0
                  have kI1 := a2 HI1.out
                  rw [← hx1] at kI1
                  have kJ0 := a2 HJ0.out
                  rw [← hx1] at kJ0
                  have kJ1 := a2 HJ1.out
                  rw [← hx1] at kJ1
                  have z5 : ZC x1 v0.heap.size := (a3 _ (fun e => hne e.symm)).trans Z5.out
                  refine hK.out _ _ (HSS.out _ k4) (fun hHeld => ?_)
                  clear hK K y0 y1 yf a2 a4 hx1
                  try simp only [Act.put, List.setIfInBounds_toArray, List.set_cons_zero, List.set_cons_succ]
                  obtain ⟨y0, y1, yf⟩ := z5.facts
                  obtain ⟨e1, e2, e3, e4⟩ := store_arr z5 (.slice AJ0 nJ0 cJ0) (.slice AJ1 nJ1 cJ1)
                  refine wpAnyH_ready (rs := [7]) (by kernel_rfl) (by simp) ?_
                  refine AllReadyH.cons (o := _) rfl (fun K hK => ?_) (AllReadyH.nil)
                  go_simp
                  obtain ⟨x2, hx2⟩ : ∃ x2, x2 = (x1.setCell ⟨v0.heap.size, 0, none⟩ (.slice AJ0 nJ0 cJ0)).setCell ⟨v0.heap.size, 1, none⟩ (.slice AJ1 nJ1 cJ1) := ⟨_, rfl⟩
                  rw [← hx2] at e1 e3 ⊢
                  have q4 := e4 k4 g5
                  rw [← hx2] at q4
                  have mI0 := e2 kI0
                  rw [← hx2] at mI0
                  have mI1 := e2 kI1
                  rw [← hx2] at mI1
                  have mJ0 := e2 kJ0
                  rw [← hx2] at mJ0
                  have mJ1 := e2 kJ1
                  rw [← hx2] at mJ1
                  refine hK.out _ _ (HSS.out _ q4) (fun hHeld => ?_)
                  clear hK K y0 y1 yf hx2
                  try simp only [Act.put, List.setIfInBounds_toArray, List.set_cons_zero, List.set_cons_succ]
                  refine wpAnyH_done (by kernel_rfl) ?_ _
                  go_wp2_with fail
                  go_meet
                  exact ⟨v27.heap.size, v0.heap.size, AI0, nI0, cI0, AI1, nI1, cI1, AJ0, nJ0, cJ0, AJ1, nJ1, cJ1, rfl, rfl, q4, (e3 _ hne).trans a1, e1, mI0.rdsh (HSL.out 0), mI1.rdsh (HSL.out 1), mJ0.rdsh (HSL.out 0), mJ1.rdsh (HSL.out 1)⟩
            · go_simp
              have hne : v26.heap.size ≠ v0.heap.size := fun e => Nat.ne_of_lt Z5.out.lt e.symm
              obtain ⟨v32, hv⟩ : ∃ v32, v32 = v26.alloc (.cells #[.slice none 0 0, .slice none 0 0] 50) := ⟨_, rfl⟩
              rw [← hv]
              have BXv32 := Lib.hid (show Below v26.heap.size v26 v32 from by rw [hv]; exact (Below.refl _ _).alloc (Nat.le_refl _) _)
              have BEv32 := Lib.hid (bnext BEv26.out BXv32.out)
              have Z4 := Lib.hid (show ZC v32 v26.heap.size from by rw [hv]; exact ZC.new _)
              refine hK.out _ _ (HSS.out _ BEv32.out) (fun hHeld => ?_)
              clear hK K hv
              try simp only [Act.put, List.setIfInBounds_toArray, List.set_cons_zero, List.set_cons_succ]
              replace Z5 := Lib.hid (Z5.out.next BXv32.out)
              refine wpAnyH_ready (rs := [1]) (by kernel_rfl) (by simp) ?_
              refine AllReadyH.cons (o := _) rfl (fun K hK => ?_) (AllReadyH.nil)
              · go_simp
                go_at_call 17
                refine (HIN.out _ BEv32.out).mono ?_
                rintro e v33 ⟨B6, b6, AI0, nI0, cI0, AI1, nI1, cI1, rfl, r0, r1⟩
                have BEv33 := Lib.hid B6
                have BXv33 := Lib.hid b6
                have HI0 := Lib.hid r0
                have HI1 := Lib.hid r1
                refine hK.out _ _ (HSS.out _ BEv33.out) (fun hHeld => ?_)
                clear hK K B6 b6 r0 r1
                try simp only [Act.put, List.setIfInBounds_toArray, List.set_cons_zero, List.set_cons_succ]
                replace Z4 := Lib.hid (Z4.out.next BXv33.out)
                replace Z5 := Lib.hid (Z5.out.next BXv33.out)
                refine wpAnyH_ready (rs := [3]) (by kernel_rfl) (by simp) ?_
                refine AllReadyH.cons (o := _) rfl (fun K hK => ?_) (AllReadyH.nil)
                · go_simp
                  go_at_call 17
                  refine (HIU.out _ BEv33.out).mono ?_
                  rintro e v34 ⟨B6, b6, AJ0, nJ0, cJ0, AJ1, nJ1, cJ1, rfl, r0, r1⟩
                  have BEv34 := Lib.hid B6
                  have BXv34 := Lib.hid b6
                  have HJ0 := Lib.hid r0
                  have HJ1 := Lib.hid r1
                  refine hK.out _ _ (HSS.out _ BEv34.out) (fun hHeld => ?_)
                  clear hK K B6 b6 r0 r1
                  try simp only [Act.put, List.setIfInBounds_toArray, List.set_cons_zero, List.set_cons_succ]
                  replace Z4 := Lib.hid (Z4.out.next BXv34.out)
                  replace Z5 := Lib.hid (Z5.out.next BXv34.out)
                  replace HI0 := Lib.hid (HI0.out.next BXv34.out)
                  replace HI1 := Lib.hid (HI1.out.next BXv34.out)
                  have g4 : w13.heap.size ≤ v26.heap.size := BEv26.out.size
                  have g5 : w13.heap.size ≤ v0.heap.size := BEv0.out.size
                  obtain ⟨y0, y1, yf⟩ := Z4.out.facts
                  obtain ⟨a1, a2, a3, a4⟩ := store_arr Z4.out (.slice AI0 nI0 cI0) (.slice AI1 nI1 cI1)
                  refine wpAnyH_ready (rs := [6]) (by kernel_rfl) (by simp) ?_
                  refine AllReadyH.cons (o := _) rfl (fun K hK => ?_) (AllReadyH.nil)
                  go_simp
                  obtain ⟨x1, hx1⟩ : ∃ x1, x1 = (v34.setCell ⟨v26.heap.size, 0, none⟩ (.slice AI0 nI0 cI0)).setCell ⟨v26.heap.size, 1, none⟩ (.slice AI1 nI1 cI1) := ⟨_, rfl⟩
                  rw [← hx1] at a1 a3 ⊢
                  have k4 := a4 BEv34.out g4
                  rw [← hx1] at k4
                  have kI0 := a2 HI0.out
                  rw [← hx1] at kI0
                  have kI1 := a2 HI1.out
                  rw [← hx1] at kI1
                  have kJ0 := a2 HJ0.out
                  rw [← hx1] at kJ0
                  have kJ1 := a2 HJ1.out
                  rw [← hx1] at kJ1
                  have z5 : ZC x1 v0.heap.size := (a3 _ (fun e => hne e.symm)).trans Z5.out
                  refine hK.out _ _ (HSS.out _ k4) (fun hHeld => ?_)
                  clear hK K y0 y1 yf a2 a4 hx1
                  try simp only [Act.put, List.setIfInBounds_toArray, List.set_cons_zero, List.set_cons_succ]
                  obtain ⟨y0, y1, yf⟩ := z5.facts
                  obtain ⟨e1, e2, e3, e4⟩ := store_arr z5 (.slice AJ0 nJ0 cJ0) (.slice AJ1 nJ1 cJ1)
                  refine wpAnyH_ready (rs := [7]) (by kernel_rfl) (by simp) ?_
                  refine AllReadyH.cons (o := _) rfl (fun K hK => ?_) (AllReadyH.nil)
                  go_simp
                  obtain ⟨x2, hx2⟩ : ∃ x2, x2 = (x1.setCell ⟨v0.heap.size, 0, none⟩ (.slice AJ0 nJ0 cJ0)).setCell ⟨v0.heap.size, 1, none⟩ (.slice AJ1 nJ1 cJ1) := ⟨_, rfl⟩
                  rw [← hx2] at e1 e3 ⊢
                  have q4 := e4 k4 g5
                  rw [← hx2] at q4
                  have mI0 := e2 kI0
                  rw [← hx2] at mI0
                  have mI1 := e2 kI1
                  rw [← hx2] at mI1
                  have mJ0 := e2 kJ0
                  rw [← hx2] at mJ0
                  have mJ1 := e2 kJ1
                  rw [← hx2] at mJ1
                  refine hK.out _ _ (HSS.out _ q4) (fun hHeld => ?_)
                  clear hK K y0 y1 yf hx2
                  try simp only [Act.put, List.setIfInBounds_toArray, List.set_cons_zero, List.set_cons_succ]
                  refine wpAnyH_done (by kernel_rfl) ?_ _
                  go_wp2_with fail
                  go_meet
                  exact ⟨v26.heap.size, v0.heap.size, AI0, nI0, cI0, AI1, nI1, cI1, AJ0, nJ0, cJ0, AJ1, nJ1, cJ1, rfl, rfl, q4, (e3 _ hne).trans a1, e1, mI0.rdsh (HSL.out 0), mI1.rdsh (HSL.out 1), mJ0.rdsh (HSL.out 0), mJ1.rdsh (HSL.out 1)⟩
        case rest =>
          obtain ⟨b1, b2, A0, n0, c0, A1, n1, c1, A2, n2, c2, A3, n3, c3, rfl, rfl, hbc, hx1, hx2, ⟨m0, R0⟩, ⟨m1, R1⟩, ⟨m2, R2⟩, ⟨m3, R3⟩⟩ := hcut
          have HNE := Lib.hid (show ne = sh.length from by rw [hle.out, HLS.out])
          have HNI := Lib.hid (show ∀ p, (inputsC ss p).length ≤ 1000000 from fun p => by
            have h : (inputsC ss p).length ≤ ss.length := by
              unfold inputsC
              rw [List.length_map]
              exact List.length_filter_le _ _
            have := hls.out
            omega)
          have RS2 := Lib.hid ((HOQ2.out.rd.left).next hbc)
          have RS1 := Lib.hid (HOQ.out.rd.next (HB413.out.trans (hbc.mono HB413.out.size)))
          have HBF := Lib.hid (bnext HB3.out (HB313.out.trans (hbc.mono HB313.out.size)))
          obtain ⟨A9, c9, h9⟩ := HOQ2.out.at_ (i := ne + 1) (l := []) (by rw [HNE.out]; simp)
          have h9' := (hbc.cell (p := ⟨q2, ne + 1, none⟩) (by obtain ⟨_, h, _⟩ := HOQ2.out; exact (Array.getElem?_eq_some_iff.1 h).1)).trans h9
          have f1 : ∀ W, (Instr.sliceAt 35 (.slice (some ⟨q2, 0, none⟩) (ne + 2) (ne + 2)) none (some (.int .i64 (ne : Int))) none).run Tryz.prog W = .ok (.slice (some ⟨q2, 0, none⟩) ne (ne + 2)) W := fun W => by
            have h := run_cutAt_to (P := Tryz.prog) (size := 1) Tryz.underlying35 (fun W => by kernel_rfl) (some ⟨q2, 0, none⟩) (n := ne + 2) (c := ne + 2) (h := ne) (by omega) W
            rwa [cutA_zero _ _ _ (.inr ⟨_, _, rfl⟩)] at h
          have x0 := cell_of_row _ _ 0 _ _ _ hx1
          have x1 := cell_of_row _ _ 1 _ _ _ hx1
          have y0 := cell_of_row _ _ 0 _ _ _ hx2
          have y1 := cell_of_row _ _ 1 _ _ _ hx2
          have q1 : (((ne + 2 : Nat) : Int) == (ne : Int) + 2) = true := by rw [beq_iff_eq]; omega
          have i0 : (0 : Int) ≤ (ne : Int) + 1 := by omega
          have i1 : (ne : Int) + 1 < ((ne + 2 : Nat) : Int) := by omega
          have i2 : (ne : Int) + 1 < (ne : Int) + 2 := by omega
          have i3 : ((ne : Int) + 1).toNat = ne + 1 := by omega
          clear h9 hx1 hx2 hbc
          obtain ⟨K, hK, hix⟩ := idx_2 at_
          rcases (show K = 0 ∨ K = 1 by omega) with rfl | rfl
          · have hiy : wrap64 ((IntKind.u64.wrap at_).tmod 2) = 0 := hix
            clear hix
            have HQ1 := Lib.hid (fun p => (same_quiet (some ⟨q2, 0, none⟩) (some ⟨q, 0, none⟩) ne ne (ne + 2) ne sh sh (wc.drewN p) HNE.out HNE.out (by omega) (by omega) (RS2.out.next (below_drewN (Below.refl _ _) p)) (RS1.out.next (below_drewN (Below.refl _ _) p))).mono fun e w' h => (show e = .returned (.bool true) ∧ ∃ q, w' = (wc.drewN p).drewN q from ⟨by rw [h.1]; simp, h.2⟩))
            have HQ2 := Lib.hid (fun p => (same_quiet A0 A2 n0 n2 c0 c2 (inputsC ss 0) (inputsC ss 0) (wc.drewN p) m0 m2 (by rw [m0]; exact HNI.out 0) (by rw [m2]; exact HNI.out 0) (R0.next (below_drewN (Below.refl _ _) p)) (R2.next (below_drewN (Below.refl _ _) p))).mono fun e w' h => (show e = .returned (.bool true) ∧ ∃ q, w' = (wc.drewN p).drewN q from ⟨by rw [h.1]; simp, h.2⟩))
            clear R0 R1 R2 R3 m0 m1 m2 m3
            go_wp2_with fail
            go_quiet (first
              | ((with_reducible show Calls _ 18 #[.slice (some ⟨q2, 0, none⟩) ne (ne + 2), .slice (some ⟨q, 0, none⟩) ne ne] _ _); exact Calls.quiet_of (HQ1.out _))
              | ((with_reducible show Calls _ 18 #[.slice A0 n0 c0, .slice A2 n2 c2] _ _); exact Calls.quiet_of (HQ2.out _)))
            go_wp2
            go_ret
            exact ⟨by first | rfl | simp, below_drewN HBF.out _⟩
          · have hiy : wrap64 ((IntKind.u64.wrap at_).tmod 2) = 1 := hix
            clear hix
            have HQ1 := Lib.hid (fun p => (same_quiet (some ⟨q2, 0, none⟩) (some ⟨q, 0, none⟩) ne ne (ne + 2) ne sh sh (wc.drewN p) HNE.out HNE.out (by omega) (by omega) (RS2.out.next (below_drewN (Below.refl _ _) p)) (RS1.out.next (below_drewN (Below.refl _ _) p))).mono fun e w' h => (show e = .returned (.bool true) ∧ ∃ q, w' = (wc.drewN p).drewN q from ⟨by rw [h.1]; simp, h.2⟩))
            have HQ2 := Lib.hid (fun p => (same_quiet A1 A3 n1 n3 c1 c3 (inputsC ss 1) (inputsC ss 1) (wc.drewN p) m1 m3 (by rw [m1]; exact HNI.out 1) (by rw [m3]; exact HNI.out 1) (R1.next (below_drewN (Below.refl _ _) p)) (R3.next (below_drewN (Below.refl _ _) p))).mono fun e w' h => (show e = .returned (.bool true) ∧ ∃ q, w' = (wc.drewN p).drewN q from ⟨by rw [h.1]; simp, h.2⟩))
            clear R0 R1 R2 R3 m0 m1 m2 m3
            go_wp2_with fail
            go_quiet (first
              | ((with_reducible show Calls _ 18 #[.slice (some ⟨q2, 0, none⟩) ne (ne + 2), .slice (some ⟨q, 0, none⟩) ne ne] _ _); exact Calls.quiet_of (HQ1.out _))
              | ((with_reducible show Calls _ 18 #[.slice A1 n1 c1, .slice A3 n3 c3] _ _); exact Calls.quiet_of (HQ2.out _)))
            go_wp2
            go_ret
            exact ⟨by first | rfl | simp, below_drewN HBF.out _⟩
    | inr cp =>
      obtain ⟨c, p⟩ := cp
      rintro e w4 ⟨hb4, v, rfl, hv⟩
      have hA4 := HTB.out _ hb4
      have z0 := cell_of_row _ _ 0 _ _ _ hA4
      have z1 := cell_of_row _ _ 1 _ _ _ hA4
      have HB4 := Lib.hid (bnext HB3.out hb4)
      obtain ⟨ti, xi, rfl⟩ := hv.iface
      clear hb4 hv hA4 hc
      go_wp2
      go_ret
      exact ⟨rfl, HB4.out⟩
  · obtain ⟨ti, xi, rfl⟩ := hv.iface
    have HB2 := Lib.hid (bnext HB1.out hb2)
    clear hb2 hv hl he
    go_wp2
    go_ret
    exact ⟨rfl, HB2.out.alloc HB2.out.size _⟩
  · obtain ⟨ti, xi, rfl⟩ := hv.iface
    have HB2 := Lib.hid (bnext HB1.out hb2)
    clear hb2 hv hl
    go_wp2
    go_ret
    exact ⟨rfl, HB2.out.alloc HB2.out.size _⟩
end Go.Proofs.YthnkeejiocnflaaGreatDoor
