/-
  The reference's state: a struct by value. What it stands for; walks of now, fail. The reference's now, fail.
-/
import Derived.Test.YtghlnncfigkkaaaGreatDoorQPAwake
namespace Go.Proofs.YtghlnncfigkkaaaGreatDoor
set_option linter.unusedVariables false
set_option linter.unusedSimpArgs false
open Go.RowKit
def eC (s : PS) : Nat := match s.err with | none => 0 | some (c, _) => c
def eP (s : PS) : Nat := match s.err with | none => 0 | some (_, p) => p
def RCell (TA : Option Addr) (n tc : Nat) (s : PS) (SA : Option Addr) (sc : Nat) (EA : Option Addr) (ec : Nat) : Array Value :=
 #[.slice TA n tc, .int .i64 s.i, .slice SA s.ss.length sc, .slice EA s.es.length ec, .int .i64 s.deep, .int .i64 (eC s), .int .i64 (eP s)]
def RVal (TA : Option Addr) (n tc : Nat) (s : PS) (SA : Option Addr) (sc : Nat) (EA : Option Addr) (ec : Nat) : Value := .agg (RCell TA n tc s SA sc EA ec)
structure RR (X : Nat → Prop) (TA : Option Addr) (L : List Tok) (s : PS) (w : World) (SA : Option Addr) (sc : Nat) (EA : Option Addr) (ec : Nat) : Prop where
 ownS : OwnSX X w 0 SA sc s.ss
 ownE : OwnEX X w 0 EA ec s.es
 toks : RdT w w.heap.size TA L
 err : ∀ c p, s.err = some (c, p) → c ≠ 0
 len : L.length ≤ 1000
 ii : s.i ≤ L.length
 dd : s.deep ≤ 32
 el : s.es.length ≤ s.i
 sl : s.ss.length ≤ 64
 xx : ∀ k, X k → k < w.heap.size
section
variable {X : Nat → Prop} {TA : Option Addr} {tc : Nat} {L : List Tok} {s : PS} {w w' : World} {SA : Option Addr} {sc : Nat} {EA : Option Addr} {ec : Nat}
theorem RR.next (h : RR X TA L s w SA sc EA ec) (hb : Below w.heap.size w w') : RR X TA L s w' SA sc EA ec :=
 ⟨h.ownS.kt (KT.below (base := 0) hb), h.ownE.keep (KT.below (base := 0) hb) (fun g cur _ hg => (hb.block g (Array.getElem?_eq_some_iff.1 hg).1).trans hg), (h.toks.below hb).more hb.size, h.err, h.len, h.ii, h.dd, h.el, h.sl, fun k hk => Nat.lt_of_lt_of_le (h.xx k hk) hb.size⟩
end
theorem st7 {w4 wS : World} {g : Nat} {a b c d e f h a0 b0 c0 d0 e0 f0 h0 : Value} {T : TypeId} (hz : w4.heap[g]? = some (.cells #[a0, b0, c0, d0, e0, f0, h0] T (0, 0)))
  (hS : wS = ((((((w4.setCell ⟨g, 0, none⟩ a).setCell ⟨g, 1, none⟩ b).setCell ⟨g, 2, none⟩ c).setCell ⟨g, 3, none⟩ d).setCell ⟨g, 4, none⟩ e).setCell ⟨g, 5, none⟩ f).setCell ⟨g, 6, none⟩ h) :
  wS.heap[g]? = some (.cells #[a, b, c, d, e, f, h] T (0, 0)) ∧ (∀ k, k ≠ g → wS.heap[k]? = w4.heap[k]?) ∧ wS.heap.size = w4.heap.size ∧ ∀ (B : Nat) (w : World), Below B w w4 → B ≤ g → Below B w wS := by
 subst hS
 refine ⟨?_, fun k hk => ?_, by simp [World.setCell], fun B w h hB => ?_⟩
 ·rw [heap_setCell_same _ _ _ _ _ _ (heap_setCell_same _ _ _ _ _ _ (heap_setCell_same _ _ _ _ _ _ (heap_setCell_same _ _ _ _ _ _ (heap_setCell_same _ _ _ _ _ _ (heap_setCell_same _ _ _ _ _ _ (heap_setCell_same _ _ _ _ _ _ hz))))))]
  rfl
 ·rw [setCell_ne _ _ _ (by simpa using hk), setCell_ne _ _ _ (by simpa using hk), setCell_ne _ _ _ (by simpa using hk), setCell_ne _ _ _ (by simpa using hk), setCell_ne _ _ _ (by simpa using hk), setCell_ne _ _ _ (by simpa using hk), setCell_ne _ _ _ (by simpa using hk)]
 ·exact ((((((h.setCell (p := ⟨g, 0, none⟩) hB _).setCell (p := ⟨g, 1, none⟩) hB _).setCell (p := ⟨g, 2, none⟩) hB _).setCell (p := ⟨g, 3, none⟩) hB _).setCell (p := ⟨g, 4, none⟩) hB _).setCell (p := ⟨g, 5, none⟩) hB _).setCell (p := ⟨g, 6, none⟩) hB _
theorem cells7 {w : World} {g : Nat} {a b c d e f h : Value} {T : TypeId} (hz : w.heap[g]? = some (.cells #[a, b, c, d, e, f, h] T (0, 0))) :
  w.cell? ⟨g, 0, none⟩ = some a ∧ w.cell? ⟨g, 1, none⟩ = some b ∧ w.cell? ⟨g, 2, none⟩ = some c ∧ w.cell? ⟨g, 3, none⟩ = some d ∧ w.cell? ⟨g, 4, none⟩ = some e ∧ w.cell? ⟨g, 5, none⟩ = some f ∧ w.cell? ⟨g, 6, none⟩ = some h :=
 ⟨cell_of_row _ _ 0 _ _ _ hz, cell_of_row _ _ 1 _ _ _ hz, cell_of_row _ _ 2 _ _ _ hz, cell_of_row _ _ 3 _ _ _ hz, cell_of_row _ _ 4 _ _ _ hz, cell_of_row _ _ 5 _ _ _ hz, cell_of_row _ _ 6 _ _ _ hz⟩
theorem frees7 {w : World} {g : Nat} {cs : Array Value} {T : TypeId} (hz : w.heap[g]? = some (.cells cs T (0, 0))) :
  w.frozen? ⟨g, 0, none⟩ = false ∧ w.frozen? ⟨g, 1, none⟩ = false ∧ w.frozen? ⟨g, 2, none⟩ = false ∧ w.frozen? ⟨g, 3, none⟩ = false ∧ w.frozen? ⟨g, 4, none⟩ = false ∧ w.frozen? ⟨g, 5, none⟩ = false ∧ w.frozen? ⟨g, 6, none⟩ = false :=
 ⟨pfree_row hz 0, pfree_row hz 1, pfree_row hz 2, pfree_row hz 3, pfree_row hz 4, pfree_row hz 5, pfree_row hz 6⟩
theorem box_kept {w w1 : World} {cs : Array Value} {T : TypeId} (hb : Below (w.alloc (.cells cs T)).heap.size (w.alloc (.cells cs T)) w1) : w1.heap[w.heap.size]? = some (.cells cs T (0, 0)) ∧ Below w.heap.size w w1 ∧ w.heap.size < w1.heap.size := by
 have h1 := hb.size
 rw [World.size_alloc] at h1
 exact ⟨(hb.block w.heap.size (by rw [World.size_alloc]; omega)).trans (heap_alloc_new w _), ((Below.refl _ _).alloc (Nat.le_refl _) _).trans (hb.mono (by rw [World.size_alloc]; omega)), by omega⟩
theorem box_kept2 {w w1 : World} {cs cs' : Array Value} {T T' : TypeId} (hb : Below ((w.alloc (.cells cs T)).alloc (.cells cs' T')).heap.size ((w.alloc (.cells cs T)).alloc (.cells cs' T')) w1) : w1.heap[w.heap.size]? = some (.cells cs T (0, 0)) ∧ w1.heap[w.heap.size + 1]? = some (.cells cs' T' (0, 0)) ∧ Below w.heap.size w w1 ∧ w.heap.size + 1 < w1.heap.size := by
 have h1 := hb.size
 rw [World.size_alloc, World.size_alloc] at h1
 have h2 := heap_alloc_new (w.alloc (.cells cs T)) (.cells cs' T')
 rw [World.size_alloc] at h2
 have h3 : ((w.alloc (.cells cs T)).alloc (.cells cs' T')).heap[w.heap.size]? = some (.cells cs T (0, 0)) := by
  rw [((Below.refl (w.heap.size + 1) (w.alloc (.cells cs T))).alloc (by rw [World.size_alloc]; omega) (.cells cs' T')).block w.heap.size (by omega)]
  exact heap_alloc_new w _
 exact ⟨(hb.block w.heap.size (by rw [World.size_alloc, World.size_alloc]; omega)).trans h3, (hb.block (w.heap.size + 1) (by rw [World.size_alloc, World.size_alloc]; omega)).trans h2, (((Below.refl _ _).alloc (Nat.le_refl _) _).alloc (by rw [World.size_alloc]; omega) _).trans (hb.mono (by rw [World.size_alloc, World.size_alloc]; omega)), by omega⟩
structure Bx (w0 w : World) (a b : Array Value) : Prop where
 k0 : w.heap[w0.heap.size]? = some (.cells a 165 (0, 0))
 k1 : w.heap[w0.heap.size + 1]? = some (.cells b 165 (0, 0))
 hb : Below w0.heap.size w0 w
 lt : w0.heap.size + 1 < w.heap.size
section
variable {w0 w w' wS : World} {a b : Array Value}
theorem Bx.lt0 (h : Bx w0 w a b) : w0.heap.size < w.heap.size := by have := h.lt; omega
theorem Bx.made (w0 : World) (a b : Array Value) : Bx w0 ((w0.alloc (.cells a 165)).alloc (.cells b 165)) a b := by
 obtain ⟨k0, k1, hb, hlt⟩ := box_kept2 (Below.refl _ ((w0.alloc (.cells a 165)).alloc (.cells b 165)))
 exact ⟨k0, k1, hb, hlt⟩
theorem Bx.call (h : Bx w0 w a b) (hb : Below w.heap.size w w') : Bx w0 w' a b :=
 ⟨(hb.block _ h.lt0).trans h.k0, (hb.block _ h.lt).trans h.k1, h.hb.trans (hb.mono h.hb.size), Nat.lt_of_lt_of_le h.lt hb.size⟩
theorem Bx.alloc (h : Bx w0 w a b) (o : Obj) : Bx w0 (w.alloc o) a b := h.call ((Below.refl _ _).alloc (Nat.le_refl _) o)
theorem Bx.drew (h : Bx w0 w a b) : Bx w0 w.drew a b := ⟨h.k0, h.k1, ⟨h.hb.os, h.hb.tape, h.hb.output, h.hb.size, h.hb.block⟩, h.lt⟩
theorem Bx.made_call (hb : Below ((w0.alloc (.cells a 165)).alloc (.cells b 165)).heap.size ((w0.alloc (.cells a 165)).alloc (.cells b 165)) w') : Bx w0 w' a b := (Bx.made w0 a b).call hb
theorem Bx.set0 (h : Bx w0 w a b) (j : Nat) (v : Value) : Bx w0 (w.setCell ⟨w0.heap.size, j, none⟩ v) (a.setIfInBounds j v) b :=
 ⟨heap_setCell_same _ _ _ _ _ _ h.k0, by rw [setCell_ne _ _ _ (by simp)]; exact h.k1, h.hb.setCell (p := ⟨w0.heap.size, j, none⟩) (Nat.le_refl _) _, by have := h.lt; simpa [World.setCell] using this⟩
theorem Bx.all0 {c d e f g h i c0 d0 e0 f0 g0 h0 i0 : Value} (hB : Bx w0 w #[c0, d0, e0, f0, g0, h0, i0] b)
  (hS : wS = ((((((w.setCell ⟨w0.heap.size, 0, none⟩ c).setCell ⟨w0.heap.size, 1, none⟩ d).setCell ⟨w0.heap.size, 2, none⟩ e).setCell ⟨w0.heap.size, 3, none⟩ f).setCell ⟨w0.heap.size, 4, none⟩ g).setCell ⟨w0.heap.size, 5, none⟩ h).setCell ⟨w0.heap.size, 6, none⟩ i) : Bx w0 wS #[c, d, e, f, g, h, i] b := by
 obtain ⟨s1, s2, s3, s4⟩ := st7 hB.k0 hS
 exact ⟨s1, (s2 _ (by omega)).trans hB.k1, s4 _ _ hB.hb (Nat.le_refl _), by rw [s3]; exact hB.lt⟩
theorem Bx.all1 {c d e f g h i c0 d0 e0 f0 g0 h0 i0 : Value} (hB : Bx w0 w a #[c0, d0, e0, f0, g0, h0, i0])
  (hS : wS = ((((((w.setCell ⟨w0.heap.size + 1, 0, none⟩ c).setCell ⟨w0.heap.size + 1, 1, none⟩ d).setCell ⟨w0.heap.size + 1, 2, none⟩ e).setCell ⟨w0.heap.size + 1, 3, none⟩ f).setCell ⟨w0.heap.size + 1, 4, none⟩ g).setCell ⟨w0.heap.size + 1, 5, none⟩ h).setCell ⟨w0.heap.size + 1, 6, none⟩ i) : Bx w0 wS a #[c, d, e, f, g, h, i] := by
 obtain ⟨s1, s2, s3, s4⟩ := st7 hB.k1 hS
 exact ⟨(s2 _ (by omega)).trans hB.k0, s1, s4 _ _ hB.hb (by omega), by rw [s3]; exact hB.lt⟩
end
end Go.Proofs.YtghlnncfigkkaaaGreatDoor
namespace Go.Proofs.YtghlnncfigkkaaaGreatDoor
set_option linter.unusedVariables false
set_option linter.unusedSimpArgs false
open Go.RowKit
attribute [local go_sem ↓] tok_field3 tok_field0
section
variable {X : Nat → Prop} {TA : Option Addr} {tc : Nat} {L : List Tok} {s : PS} {w w' : World} {SA : Option Addr} {sc : Nat} {EA : Option Addr} {ec : Nat}
set_option maxRecDepth 100000 in
set_option maxHeartbeats 1000000 in
theorem rnow_any (w : World) (h : RR X TA L s w SA sc EA ec) (tc : Nat) :
  Calls Tryz.prog 87 #[RVal TA L.length tc s SA sc EA ec] w fun e w' => e = .returned (tokV (nowP L s)) ∧ Below w.heap.size w w' := by
 unfold RVal RCell
 obtain ⟨n, hn⟩ : ∃ n, n = L.length := ⟨_, rfl⟩
 obtain ⟨i, hi⟩ : ∃ i, i = s.i := ⟨_, rfl⟩
 obtain ⟨ns, hns⟩ : ∃ i, i = s.ss.length := ⟨_, rfl⟩
 obtain ⟨ne, hne⟩ : ∃ i, i = s.es.length := ⟨_, rfl⟩
 obtain ⟨dp, hdp⟩ : ∃ i, i = s.deep := ⟨_, rfl⟩
 obtain ⟨c, hc⟩ : ∃ i, i = eC s := ⟨_, rfl⟩
 obtain ⟨p, hp⟩ : ∃ i, i = eP s := ⟨_, rfl⟩
 have hii := h.ii
 have hlen := h.len
 rw [← hi] at hii
 rw [← hn] at hii hlen
 rw [← hn, ← hi, ← hns, ← hne, ← hdp, ← hc, ← hp]
 have H := Lib.hid h
 have HN := Lib.hid hn
 have HI := Lib.hid hi
 clear h hn hi hns hne hdp hc hp
 by_cases hlt : i < n
 ·have hti : L[i]? = some (L[i]'(by rw [← HN.out]; exact hlt)) := List.getElem?_eq_getElem _
  obtain ⟨t, htt⟩ : ∃ t, t = L[i]'(by rw [← HN.out]; exact hlt) := ⟨_, rfl⟩
  rw [← htt] at hti
  obtain ⟨b, o, rfl, hbl, e0, e1, e2, e3⟩ := H.out.toks.tok hti
  have hnow : nowP L s = t := by
   unfold nowP
   rw [← HI.out, hti]
   rfl
  have HNOW := Lib.hid hnow
  obtain ⟨kd, tx, nm, ps⟩ := t
  dsimp only at e0 e1 e2 e3
  have q : decide ((i : Int) < (n : Int)) = true := by simp; omega
  have i0 : (0 : Int) ≤ (i : Int) := by omega
  have i1 : (i : Int) < (n : Int) := by omega
  clear hti htt hnow
  go_enter Tryz.func87, Tryz.ntmps87
  go_wp2
  exact bodyPost_ret (v := tokV ⟨kd, tx, nm, ps⟩) (by simp [results, Tryz.results87, go_sem, tokV]) rfl ⟨by rw [HNOW.out], ((Below.refl _ _).alloc (Nat.le_refl _) _).alloc (by simp) _⟩
 ·have hnow : nowP L s = zTok := by
   unfold nowP
   rw [List.getElem?_eq_none (by rw [← HI.out, ← HN.out]; omega)]
   rfl
  have HNOW := Lib.hid hnow
  have q : decide ((i : Int) < (n : Int)) = false := by simp; omega
  clear hnow
  go_enter Tryz.func87, Tryz.ntmps87
  go_wp2
  exact bodyPost_ret (v := tokV zTok) (by simp [results, Tryz.results87, go_sem, tokV, zTok]) rfl ⟨by rw [HNOW.out], ((Below.refl _ _).alloc (Nat.le_refl _) _).alloc (by simp) _⟩
theorem RR.err' (h : RR X TA L s w SA sc EA ec) {c p : Nat} (hc : c ≠ 0) : RR X TA L { s with err := some (c, p) } w SA sc EA ec :=
 ⟨h.ownS, h.ownE, h.toks, fun c' p' he => by injection he with he; injection he with he _; omega, h.len, h.ii, h.dd, h.el, h.sl, h.xx⟩
set_option maxRecDepth 100000 in
set_option maxHeartbeats 1000000 in
theorem rfail_any (w : World) (h : RR X TA L s w SA sc EA ec) (tc : Nat) (k : Nat) (hk : k ≠ 0) :
  Calls Tryz.prog 139 #[RVal TA L.length tc s SA sc EA ec, .int .i64 k] w fun e w' => e = .returned (RVal TA L.length tc (failP L s k) SA sc EA ec) ∧ Below w.heap.size w w' := by
 cases herr : s.err with
 | some x =>
  obtain ⟨c, p⟩ := x
  have hF : failP L s k = s := by unfold failP; rw [herr]
  rw [hF]
  unfold RVal RCell
  have hc : eC s = c := by unfold eC; rw [herr]
  have hc0 := h.err c p herr
  rw [hc]
  have q : ((c : Int) == 0) = false := by rw [beq_eq_false_iff_ne]; omega
  clear h herr
  go_enter Tryz.func139, Tryz.ntmps139
  go_wp2
  exact bodyPost_ret (by simp [results, Tryz.results139, go_sem]) rfl ⟨rfl, ((Below.refl _ _).alloc (Nat.le_refl _) _).alloc (by simp) _⟩
 | none =>
  have HN := Lib.hid (fun w' hb => rnow_any (s := { s with err := some (k, 0) }) w' ((h.err' (p := 0) hk).next (w' := w') hb) tc)
  have hF : failP L s k = { s with err := some (k, (nowP L s).pos) } := by unfold failP; rw [herr]
  rw [hF]
  have hc : eC s = 0 := by unfold eC; rw [herr]
  have hp : eP s = 0 := by unfold eP; rw [herr]
  obtain ⟨kd, tx, nm, ps, hnow⟩ : ∃ kd tx nm ps, nowP L s = ⟨kd, tx, nm, ps⟩ := ⟨_, _, _, _, rfl⟩
  have hnow' : nowP L { s with err := some (k, 0) } = ⟨kd, tx, nm, ps⟩ := hnow
  rw [hnow'] at HN
  rw [hnow]
  unfold RVal RCell at HN ⊢
  rw [hc, hp]
  clear h herr hnow hnow' hc hp
  go_enter Tryz.func139, Tryz.ntmps139
  go_wp2_with fail
  refine (HN.out _ (((Below.refl _ _).alloc (Nat.le_refl _) _).alloc (by simp) _)).mono ?_
  rintro e w1 ⟨rfl, b1⟩
  have B1 := Lib.hid (Bx.made_call b1)
  clear b1 hF
  obtain ⟨r0, r1, r2, r3, r4, r5, r6⟩ := cells7 B1.out.k0
  obtain ⟨z0, z1, z2, z3, z4, z5, z6⟩ := cells7 B1.out.k1
  obtain ⟨y0, y1, y2, y3, y4, y5, y6⟩ := frees7 B1.out.k0
  obtain ⟨x0, x1, x2, x3, x4, x5, x6⟩ := frees7 B1.out.k1
  have hlt0 := B1.out.lt0
  have hlt1 := B1.out.lt
  unfold tokV
  dsimp only
  go_wp2
  obtain ⟨wS, hwS⟩ : ∃ wS, wS = (((((((w1.setCell ⟨w.heap.size, 6, none⟩ (.int .i64 ((ps : Nat) : Int))).setCell ⟨w.heap.size + 1, 0, none⟩ (.slice TA L.length tc)).setCell ⟨w.heap.size + 1, 1, none⟩ (.int .i64 ((s.i : Nat) : Int))).setCell ⟨w.heap.size + 1, 2, none⟩ (.slice SA s.ss.length sc)).setCell ⟨w.heap.size + 1, 3, none⟩ (.slice EA s.es.length ec)).setCell ⟨w.heap.size + 1, 4, none⟩ (.int .i64 ((s.deep : Nat) : Int))).setCell ⟨w.heap.size + 1, 5, none⟩ (.int .i64 ((k : Nat) : Int))).setCell ⟨w.heap.size + 1, 6, none⟩ (.int .i64 ((ps : Nat) : Int)) := ⟨_, rfl⟩
  rw [← hwS]
  have hBS := Bx.all1 (B1.out.set0 6 (.int .i64 ps)) hwS
  obtain ⟨d0, d1, d2, d3, d4, d5, d6⟩ := cells7 hBS.k1
  clear hwS
  exact bodyPost_ret (v := RVal TA L.length tc { s with err := some (k, ps) } SA sc EA ec) (by simp [results, Tryz.results139, go_sem, d0, d1, d2, d3, d4, d5, d6, RVal, RCell, eC, eP]) rfl ⟨rfl, hBS.hb⟩
theorem rnow_at (w : World) (h : RR X TA L s w SA sc EA ec) (tc : Nat) {kd nm ps : Nat} {tx : ByteArray} (ht : nowP L s = ⟨kd, tx, nm, ps⟩) :
  Calls Tryz.prog 87 #[.agg #[.slice TA L.length tc, .int .i64 s.i, .slice SA s.ss.length sc, .slice EA s.es.length ec, .int .i64 s.deep, .int .i64 (eC s), .int .i64 (eP s)]] w fun e w' => e = .returned (.agg #[.int .i64 kd, .string tx, .int .u64 nm, .int .i64 ps]) ∧ Below w.heap.size w w' := by
 have := rnow_any w h tc
 rw [ht] at this
 exact this
theorem eC_none (h : s.err = none) : eC s = 0 := by unfold eC; rw [h]
theorem RR.eC_some (h : RR X TA L s w SA sc EA ec) (he : s.err ≠ none) : eC s ≠ 0 := by
 cases hc : s.err with
 | none => exact absurd hc he
 | some x =>
  obtain ⟨c, p⟩ := x
  have := h.err c p hc
  unfold eC
  rw [hc]
  exact this
set_option maxRecDepth 100000 in
set_option maxHeartbeats 2000000 in
theorem ris_any (w : World) (h : RR X TA L s w SA sc EA ec) (tc : Nat) (t : ByteArray) :
  Calls Tryz.prog 140 #[.agg #[.slice TA L.length tc, .int .i64 s.i, .slice SA s.ss.length sc, .slice EA s.es.length ec, .int .i64 s.deep, .int .i64 (eC s), .int .i64 (eP s)], .string t] w fun e w' => e = .returned (.bool (isP L s t)) ∧ Below w.heap.size w w' := by
 obtain ⟨kd, tx, nm, ps, hnow⟩ : ∃ kd tx nm ps, nowP L s = ⟨kd, tx, nm, ps⟩ := ⟨_, _, _, _, rfl⟩
 have HN := Lib.hid (fun w' hb => rnow_at w' (h.next (w' := w') hb) tc hnow)
 have hval : isP L s t = (s.err.isNone && (kd == 3 || kd == 4) && (tx.toList == t.toList)) := by unfold isP; rw [hnow]
 rw [hval]
 have HC := Lib.hid (h.eC_some)
 clear hnow hval h
 cases herr : s.err with
 | some c =>
  have hc := HC.out (by rw [herr]; simp)
  have q : (((eC s : Nat) : Int) == 0) = false := by rw [beq_eq_false_iff_ne]; omega
  clear herr hc
  go_enter Tryz.func140, Tryz.ntmps140
  go_wp2_with fail
  refine (HN.out _ (one_new w _)).mono ?_
  rintro e w1 ⟨rfl, b1⟩
  obtain ⟨k0, hb, hlt⟩ := box_kept b1
  obtain ⟨r0, r1, r2, r3, r4, r5, r6⟩ := cells7 k0
  have HB := Lib.hid hb
  clear b1 k0 hb
  go_wp2
  go_ret
  exact ⟨by simp [*], HB.out.alloc HB.out.size _⟩
 | none =>
  have q : (((eC s : Nat) : Int) == 0) = true := by rw [beq_iff_eq, eC_none herr]; rfl
  clear herr
  have e1 : ((kd : Int) == 3) = (kd == 3) := by rw [Bool.eq_iff_iff, beq_iff_eq, beq_iff_eq]; omega
  have e2 : ((kd : Int) == 4) = (kd == 4) := by rw [Bool.eq_iff_iff, beq_iff_eq, beq_iff_eq]; omega
  cases q1 : (kd == 3) with
  | true =>
   rw [q1] at e1
   cases q3 : (tx.toList == t.toList) with
   | true =>
    go_enter Tryz.func140, Tryz.ntmps140
    go_wp2_with fail
    refine (HN.out _ (one_new w _)).mono ?_
    rintro e w1 ⟨rfl, b1⟩
    obtain ⟨k0, hb, hlt⟩ := box_kept b1
    obtain ⟨r0, r1, r2, r3, r4, r5, r6⟩ := cells7 k0
    have HB := Lib.hid hb
    clear b1 k0 hb
    go_wp2
    go_ret
    exact ⟨by simp [*], HB.out.alloc HB.out.size _⟩
   | false =>
    go_enter Tryz.func140, Tryz.ntmps140
    go_wp2_with fail
    refine (HN.out _ (one_new w _)).mono ?_
    rintro e w1 ⟨rfl, b1⟩
    obtain ⟨k0, hb, hlt⟩ := box_kept b1
    obtain ⟨r0, r1, r2, r3, r4, r5, r6⟩ := cells7 k0
    have HB := Lib.hid hb
    clear b1 k0 hb
    go_wp2
    go_ret
    exact ⟨by simp [*], HB.out.alloc HB.out.size _⟩
  | false =>
   rw [q1] at e1
   cases q2 : (kd == 4) with
   | true =>
    rw [q2] at e2
    cases q3 : (tx.toList == t.toList) with
    | true =>
     go_enter Tryz.func140, Tryz.ntmps140
     go_wp2_with fail
     refine (HN.out _ (one_new w _)).mono ?_
     rintro e w1 ⟨rfl, b1⟩
     obtain ⟨k0, hb, hlt⟩ := box_kept b1
     obtain ⟨r0, r1, r2, r3, r4, r5, r6⟩ := cells7 k0
     have HB := Lib.hid hb
     clear b1 k0 hb
     go_wp2
     go_ret
     exact ⟨by simp [*], HB.out.alloc HB.out.size _⟩
    | false =>
     go_enter Tryz.func140, Tryz.ntmps140
     go_wp2_with fail
     refine (HN.out _ (one_new w _)).mono ?_
     rintro e w1 ⟨rfl, b1⟩
     obtain ⟨k0, hb, hlt⟩ := box_kept b1
     obtain ⟨r0, r1, r2, r3, r4, r5, r6⟩ := cells7 k0
     have HB := Lib.hid hb
     clear b1 k0 hb
     go_wp2
     go_ret
     exact ⟨by simp [*], HB.out.alloc HB.out.size _⟩
   | false =>
    rw [q2] at e2
    go_enter Tryz.func140, Tryz.ntmps140
    go_wp2_with fail
    refine (HN.out _ (one_new w _)).mono ?_
    rintro e w1 ⟨rfl, b1⟩
    obtain ⟨k0, hb, hlt⟩ := box_kept b1
    obtain ⟨r0, r1, r2, r3, r4, r5, r6⟩ := cells7 k0
    have HB := Lib.hid hb
    clear b1 k0 hb
    go_wp2
    go_ret
    exact ⟨by simp [*], HB.out.alloc HB.out.size _⟩
end
end Go.Proofs.YtghlnncfigkkaaaGreatDoor
