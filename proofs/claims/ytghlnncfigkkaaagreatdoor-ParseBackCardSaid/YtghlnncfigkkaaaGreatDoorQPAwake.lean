/-
  The parse laws' awake answers true; their Cut.
-/
import Derived.Test.YtghlnncfigkkaaaGreatDoorQMin
import Derived.Test.YtghlnncfigkkaaaGreatDoorQIs
namespace Go.Proofs.YtghlnncfigkkaaaGreatDoor
set_option linter.unusedVariables false
set_option linter.unusedSimpArgs false
open Go.RowKit
theorem flat_nth {α : Type} (f : α → List Value) (k : Nat) (hf : ∀ a, (f a).length = k) : ∀ (l : List α) (i j : Nat) (a : α), l[i]? = some a → j < k → (l.flatMap f)[i * k + j]? = (f a)[j]?
 | [], i, j, a, h, _ => by simp at h
 | x :: l, 0, j, a, h, hj => by
  simp at h
  subst h
  rw [List.flatMap_cons, List.getElem?_append_left (by rw [hf]; omega)]
  simp
 | x :: l, i + 1, j, a, h, hj => by
  have hh : l[i]? = some a := by simpa using h
  have ih := flat_nth f k hf l i j a hh hj
  rw [List.flatMap_cons, List.getElem?_append_right (by rw [hf, Nat.add_mul]; omega), hf, show (i + 1) * k + j - k = i * k + j from by rw [Nat.add_mul]; omega, ih]
theorem row_cell {w : World} {base size n c : Nat} {T : TypeId} {A : Option Addr} {xs : List Value} (h : w.ownsRow base T size (.slice A n c) n xs) {i : Nat} {v : Value} (hi : xs[i]? = some v) : ∃ g, A = some ⟨g, 0, none⟩ ∧ base ≤ g ∧ g < w.heap.size ∧ w.cell? ⟨g, i, none⟩ = some v := by
 have hlen := h.1
 rcases h.2 with ⟨hv, hn⟩ | ⟨g, cap', cur, hv, hb1, hg, h1, h2, h3, h4⟩
 ·have : i < xs.length := (List.getElem?_eq_some_iff.1 hi).1
  rw [hlen, hn] at this
  simp at this
 ·have e : A = some ⟨g, 0, none⟩ := by injection hv
  refine ⟨g, e, hb1, (Array.getElem?_eq_some_iff.1 hg).1, ?_⟩
  rw [cell_of_row w g i cur T (0, 0) hg]
  rw [← h4, List.getElem?_take] at hi
  split at hi
  ·simpa using hi
  ·cases hi
theorem OwnE.kind {w : World} {base c : Nat} {A : Option Addr} {es : List Ex} (h : OwnE w base A c es) {i : Nat} {e : Ex} (hi : es[i]? = some e) : ∃ g, A = some ⟨g, 0, none⟩ ∧ base ≤ g ∧ g < w.heap.size ∧ w.cell? ⟨g, i * 5, none⟩ = some (.int .i64 e.kind) := by
 obtain ⟨ms, h1, h2, _⟩ := h
 rw [← h1, List.getElem?_map] at hi
 cases hm : ms[i]? with
 | none => rw [hm] at hi; cases hi
 | some m =>
  rw [hm] at hi
  simp at hi
  have := flat_nth exCells 5 (fun _ => rfl) ms i 0 m hm (by omega)
  rw [← hi]
  exact row_cell h2 (by rw [Nat.add_zero] at this; rw [this]; rfl)
theorem OwnS.expr {w : World} {base c : Nat} {A : Option Addr} {ss : List Sm} (h : OwnS w base A c ss) {i : Nat} {x : Sm} (hi : ss[i]? = some x) : ∃ g, A = some ⟨g, 0, none⟩ ∧ base ≤ g ∧ g < w.heap.size ∧ w.cell? ⟨g, i * 6 + 4, none⟩ = some (.int .i64 x.expr) := by
 obtain ⟨ms, h1, h2, _⟩ := h
 rw [← h1, List.getElem?_map] at hi
 cases hm : ms[i]? with
 | none => rw [hm] at hi; cases hi
 | some m =>
  rw [hm] at hi
  simp at hi
  have := flat_nth smCells 6 (fun _ => rfl) ms i 4 m hm (by omega)
  rw [← hi]
  exact row_cell h2 (by rw [this]; rfl)
def pawA : ByteArray := { data := #[108, 101, 116, 32, 121, 32, 61, 32, 97, 32, 43, 32, 50, 32, 42, 32, 98, 32, 62, 62, 32, 49, 59] }
def pawB : ByteArray := { data := #[111, 117, 116, 112, 117, 116, 32, 121] }
def pawL : List Tok := [⟨4, ⟨#[108, 101, 116]⟩, 0, 0⟩, ⟨1, ⟨#[121]⟩, 0, 4⟩, ⟨3, ⟨#[61]⟩, 0, 6⟩, ⟨1, ⟨#[97]⟩, 0, 8⟩, ⟨3, ⟨#[43]⟩, 0, 10⟩, ⟨2, ⟨#[50]⟩, 2, 12⟩, ⟨3, ⟨#[42]⟩, 0, 14⟩, ⟨1, ⟨#[98]⟩, 0, 16⟩, ⟨3, ⟨#[62, 62]⟩, 0, 18⟩, ⟨2, ⟨#[49]⟩, 1, 21⟩, ⟨3, ⟨#[59]⟩, 0, 22⟩, ⟨0, ⟨#[]⟩, 0, 23⟩]
def pawM : List Tok := [⟨4, ⟨#[111, 117, 116, 112, 117, 116]⟩, 0, 0⟩, ⟨1, ⟨#[121]⟩, 0, 7⟩, ⟨0, ⟨#[]⟩, 0, 8⟩]
theorem pawA_scan : scanM pawA = .toks pawL := by kernel_rfl
theorem pawB_scan : scanM pawB = .toks pawM := by kernel_rfl
theorem pawA_err : (parseP 200 pawL).err = none := by kernel_rfl
theorem pawA_es : (parseP 200 pawL).es.map Ex.kind = [2, 1, 2, 9, 6, 4] := by kernel_rfl
theorem pawA_ss : (parseP 200 pawL).ss.map Sm.expr = [5] := by kernel_rfl
theorem pawB_err : (parseP 200 pawM).err = some (130, 8) := by kernel_rfl
theorem text_good (s : ByteArray) (F : Nat) (l : List Tok) (w : World) (hs : s.size ≤ 100000) (hg : ETyped w) (ht : ErrT w) (hF : 12 * l.length + 20 ≤ F) (hl : scanM s = .toks l) (he : (parseP F l).err = none) :
  Calls Tryz.prog 16 #[.string s] w fun e w' => Below w.heap.size w w' ∧ ∃ SA sc EA ec, e = .returned (.tuple #[.agg #[.slice SA (parseP F l).ss.length sc, .slice EA (parseP F l).es.length ec], .nilIface]) ∧ OwnS w' w.heap.size SA sc (parseP F l).ss ∧ OwnE w' w.heap.size EA ec (parseP F l).es := by
 refine (text_any s F w hs hg ht (fun l' h' => by rw [hl] at h'; injection h' with h'; subst h'; exact hF)).mono ?_
 rintro e w' ⟨hb, h⟩
 rcases h with ⟨l', e1, e2, r⟩ | ⟨l', c, p, v, e1, e2, r⟩ | ⟨c, p, v, e1, r⟩
 ·rw [hl] at e1; injection e1 with e1; subst e1
  exact ⟨hb, r⟩
 ·rw [hl] at e1; injection e1 with e1; subst e1
  rw [he] at e2; cases e2
 ·rw [hl] at e1; cases e1
theorem text_bad (s : ByteArray) (F : Nat) (l : List Tok) (c p : Nat) (w : World) (hs : s.size ≤ 100000) (hg : ETyped w) (ht : ErrT w) (hF : 12 * l.length + 20 ≤ F) (hl : scanM s = .toks l) (he : (parseP F l).err = some (c, p)) :
  Calls Tryz.prog 16 #[.string s] w fun e w' => Below w.heap.size w w' ∧ ∃ v, e = .returned (.tuple #[.agg #[.slice none 0 0, .slice none 0 0], v]) ∧ IsErr w' v [(parN, (p : Int))] (c : Int) := by
 refine (text_any s F w hs hg ht (fun l' h' => by rw [hl] at h'; injection h' with h'; subst h'; exact hF)).mono ?_
 rintro e w' ⟨hb, h⟩
 rcases h with ⟨l', e1, e2, r⟩ | ⟨l', c', p', v, e1, e2, r⟩ | ⟨c', p', v, e1, r⟩
 ·rw [hl] at e1; injection e1 with e1; subst e1
  rw [he] at e2; cases e2
 ·rw [hl] at e1; injection e1 with e1; subst e1
  rw [he] at e2
  injection e2 with e2
  injection e2 with e2 e3
  subst e2 e3
  exact ⟨hb, v, r⟩
 ·rw [hl] at e1; cases e1
theorem map_nth {α : Type} {l : List α} {f : α → Nat} {r : List Nat} (h : l.map f = r) {i k : Nat} (hk : r[i]? = some k) : ∃ a, l[i]? = some a ∧ f a = k := by
 rw [← h, List.getElem?_map] at hk
 cases hm : l[i]? with
 | none => rw [hm] at hk; cases hk
 | some a => rw [hm] at hk; simp at hk; exact ⟨a, rfl, hk⟩
set_option maxRecDepth 100000 in
set_option maxHeartbeats 4000000 in
theorem pawake_true (w : World) (hg : ETyped w) (ht : ErrT w) : Calls Tryz.prog 15 #[] w fun e w' => e = .returned (.bool true) ∧ Below w.heap.size w w' := by
 have HG := Lib.hid hg
 have HT := Lib.hid ht
 clear hg ht
 go_enter Tryz.func15, Tryz.ntmps15
 go_wp2_with fail
 refine (text_good pawA 200 pawL w (by decide) HG.out HT.out (by decide) pawA_scan pawA_err).mono ?_
 rintro e w1 ⟨b1, SA, sc, EA, ec, rfl, oS, oE⟩
 have hsl : (parseP 200 pawL).ss.length = 1 := by have := congrArg List.length pawA_ss; rw [List.length_map] at this; exact this
 have hel : (parseP 200 pawL).es.length = 6 := by have := congrArg List.length pawA_es; rw [List.length_map] at this; exact this
 rw [hsl, hel]
 obtain ⟨e5, h5, k5⟩ := map_nth pawA_es (i := 5) (k := 4) rfl
 obtain ⟨e3, h3, k3⟩ := map_nth pawA_es (i := 3) (k := 9) rfl
 obtain ⟨s0, h0, k0⟩ := map_nth pawA_ss (i := 0) (k := 5) rfl
 obtain ⟨ge, rfl, hge, hge2, c5⟩ := oE.kind h5
 obtain ⟨ge', e', _, _, c3⟩ := oE.kind h3
 injection e' with e'
 injection e' with e' _ _
 subst e'
 obtain ⟨gs, rfl, hgs, hgs2, c0⟩ := oS.expr h0
 rw [k5] at c5
 rw [k3] at c3
 rw [k0] at c0
 have HG1 := Lib.hid (HG.out.next b1)
 have HT1 := Lib.hid (HT.out.next b1)
 have HB1 := Lib.hid b1
 have HC := Lib.hid (And.intro c5 (And.intro c3 c0))
 clear oS oE hsl hel h5 h3 h0 c5 c3 c0 b1 k5 k3 k0
 go_wp2_with fail
 obtain ⟨w2, hw2⟩ : ∃ w2, w2 = w1.alloc (.cells #[.slice (some ⟨gs, 0, none⟩) 1 sc, .slice (some ⟨ge, 0, none⟩) 6 ec] 26) := ⟨_, rfl⟩
 rw [← hw2]
 have hb12 : Below w1.heap.size w1 w2 := by rw [hw2]; exact (Below.refl _ _).alloc (Nat.le_refl _) _
 have hT0 : w2.heap[w1.heap.size]? = some (.cells #[.slice (some ⟨gs, 0, none⟩) 1 sc, .slice (some ⟨ge, 0, none⟩) 6 ec] 26 (0, 0)) := by rw [hw2]; exact heap_alloc_new w1 _
 have hs2 : w2.heap.size = w1.heap.size + 1 := by rw [hw2]; simp
 have HB2 := Lib.hid (HB1.out.trans (hb12.mono HB1.out.size))
 have HTR := Lib.hid hT0
 have HG2 := Lib.hid (HG1.out.next hb12)
 have HT2 := Lib.hid (HT1.out.next hb12)
 have HB12 := Lib.hid hb12
 clear hw2 hb12 hT0
 refine (text_bad pawB 200 pawM 130 8 w2 (by decide) HG2.out HT2.out (by decide) pawB_scan pawB_err).mono ?_
 rintro e w3 ⟨b3, v, rfl, he⟩
 have HB3 := Lib.hid (HB2.out.trans (b3.mono HB2.out.size))
 have HE := Lib.hid he
 have ht3 := (b3.block w1.heap.size (by omega)).trans HTR.out
 have hs3 := b3.size
 have hb13 : Below w1.heap.size w1 w3 := HB12.out.trans (b3.mono (by omega))
 have d0 : ∀ o : Obj, (w3.alloc o).cell? ⟨w1.heap.size, 0, none⟩ = some (.slice (some ⟨gs, 0, none⟩) 1 sc) := fun o => (World.cell?_alloc_lt w3 o ⟨w1.heap.size, 0, none⟩ (by show w1.heap.size < w3.heap.size; omega)).trans (cell_of_row w3 _ 0 _ _ _ ht3)
 have d1 : ∀ o : Obj, (w3.alloc o).cell? ⟨w1.heap.size, 1, none⟩ = some (.slice (some ⟨ge, 0, none⟩) 6 ec) := fun o => (World.cell?_alloc_lt w3 o ⟨w1.heap.size, 1, none⟩ (by show w1.heap.size < w3.heap.size; omega)).trans (cell_of_row w3 _ 1 _ _ _ ht3)
 have d5 : ∀ o : Obj, (w3.alloc o).cell? ⟨ge, 25, none⟩ = some (.int .i64 4) := fun o => (World.cell?_alloc_lt w3 o ⟨ge, 25, none⟩ (by show ge < w3.heap.size; omega)).trans ((hb13.cell (p := ⟨ge, 25, none⟩) hge2).trans HC.out.1)
 have d3 : ∀ o : Obj, (w3.alloc o).cell? ⟨ge, 15, none⟩ = some (.int .i64 9) := fun o => (World.cell?_alloc_lt w3 o ⟨ge, 15, none⟩ (by show ge < w3.heap.size; omega)).trans ((hb13.cell (p := ⟨ge, 15, none⟩) hge2).trans HC.out.2.1)
 have d4 : ∀ o : Obj, (w3.alloc o).cell? ⟨gs, 4, none⟩ = some (.int .i64 5) := fun o => (World.cell?_alloc_lt w3 o ⟨gs, 4, none⟩ (by show gs < w3.heap.size; omega)).trans ((hb13.cell (p := ⟨gs, 4, none⟩) hgs2).trans HC.out.2.2)
 obtain ⟨te, xe, rfl⟩ := he.iface
 have HI := Lib.hid (fun o : Obj => Is_any [(parN, (8 : Int))] 130 130 (.iface te xe) (w3.alloc o) (HE.out.next ((Below.refl _ _).alloc (Nat.le_refl _) o)))
 have HBF := Lib.hid (fun o : Obj => HB3.out.alloc HB3.out.size o)
 clear b3 he ht3 hs3 hb13
 go_wp2_with (go_at_call 24; refine (HI.out _).mono ?_; rintro e w' ⟨rfl, rfl⟩)
 go_ret
 exact ⟨rfl, HBF.out _⟩
theorem run_min_4200 (w : World) (ts : Array TypeId) (t : TypeId) (a : Nat) : (Builtin.min_ ts t #[.int .i64 (a : Int), .int .i64 4200]).run Tryz.prog w = .ok (.int .i64 (minN a 4200 : Nat)) w := run_min_lit w ts t a 4200
attribute [local go_sem ↓] run_min_4200
set_option maxRecDepth 100000 in
theorem cut_any (s : ByteArray) (hsz : s.size ≤ maxLen) (w : World) : Calls Tryz.prog 17 #[.string s] w fun e w' => e = .returned (.string (s.extract 0 (minN s.size 4200))) ∧ w = w' := by
 obtain ⟨m1, m2, m3⟩ := minN_le s.size 4200
 obtain ⟨M, hM⟩ : ∃ M, M = minN s.size 4200 := ⟨_, rfl⟩
 rw [← hM] at m1 m2 ⊢
 have hm := hM.symm
 clear m3 hM
 go_enter Tryz.func17, Tryz.ntmps17
 go_wp2
 go_ret
 exact ⟨rfl, rfl⟩
end Go.Proofs.YtghlnncfigkkaaaGreatDoor
