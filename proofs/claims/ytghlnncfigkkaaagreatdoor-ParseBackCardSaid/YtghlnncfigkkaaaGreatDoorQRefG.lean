/-
  The reference's levels: a SIGN. The reference's levels: an ATOM. The reference's levels: a CALL. The reference's levels: an ATOM, with parentheses.
-/
import Derived.Test.YtghlnncfigkkaaaGreatDoorQParH
import Derived.Test.YtghlnncfigkkaaaGreatDoorQRefD
namespace Go.Proofs.YtghlnncfigkkaaaGreatDoor
set_option linter.unusedVariables false
set_option linter.unusedSimpArgs false
open Go.RowKit
attribute [local go_sem ↓] tok_field3 tok_field0
section
variable {X Y : Nat → Prop} {TA SA : Option Addr} {tc n ns sc : Nat} {L : List Tok} {s s' : PS} {w0 w w1 wS : World} {i ne ec d c p : Nat} {EA : Option Addr} {b : Array Value} {Q : List (Nat × Obj)}
theorem number_le (s : PS) : (numberP L s).2 ≤ 1048576 := by
 unfold numberP
 split
 ·exact Nat.zero_le _
 ·rename_i hh
  simp only [Bool.or_eq_true, not_or, decide_eq_true_eq] at hh
  show (nowP L s).num ≤ 1048576
  omega
theorem ST.rise (h : ST X TA L s w n SA ns sc i EA ne ec d c p) {d1 : Nat} (hi : d1 = d - 1) : ST X TA L (riseP s) w n SA ns sc i EA ne ec d1 c p := by
 have hd := h.rr.dd
 subst hi
 exact ⟨h.rr.deep (s.deep - 1) (by omega), h.en, h.ens, h.ei, h.ene, by rw [h.ed]; rfl, h.ecc, h.ep⟩
set_option maxRecDepth 100000 in
set_option maxHeartbeats 4000000 in
theorem rsign_step (f : Nat) (ih : ∀ f', f' ≤ f → AllR TA tc L n SA ns sc f') (h : ST X TA L s w n SA ns sc i EA ne ec d c p) (hf : 12 * (L.length - s.i) + 3 ≤ f + 1) :
  Calls Tryz.prog 176 #[.agg #[.slice TA n tc, .int .i64 ((i : Nat) : Int), .slice SA ns sc, .slice EA ne ec, .int .i64 ((d : Nat) : Int), .int .i64 ((c : Nat) : Int), .int .i64 ((p : Nat) : Int)]] w (RLv X TA tc L n SA ns sc w (signP L (f + 1) s)) := by
 have F0 := Lib.hid (FR.made (tc := tc) h #[(.slice none 0 0), (.int .i64 0), (.slice none 0 0), (.slice none 0 0), (.int .i64 0), (.int .i64 0), (.int .i64 0)])
 obtain ⟨kd, tx, nm, ps, hnow⟩ : ∃ kd tx nm ps, nowP L s = ⟨kd, tx, nm, ps⟩ := ⟨_, _, _, _, rfl⟩
 obtain ⟨e1, e2, e3, e4, e5, e6⟩ := h.el
 have HNOW := Lib.hid hnow
 have IH := Lib.hid ih
 have HF := Lib.hid hf
 clear ih hnow h hf
 cases hq : isP L s tMinus with
 | true =>
  by_cases hd : s.deep = 32
  ·have HR := Lib.hid (show signP L (f + 1) s = (failP L s 5, 0) from by rw [signP]; simp only [hq, sinkP, hd]; rfl)
   have HQ := Lib.hid hq
   have q1 : decide ((32 : Int) ≤ (d : Int)) = true := by rw [decide_eq_true_eq]; omega
   clear hq e1 e2 e3 e4 e5 e6 hd
   go_enter Tryz.func176, Tryz.ntmps176
   go_wp2_with fail
   refine (snow F0.out.st tc HNOW.out).mono ?_
   rintro e w1 ⟨rfl, b1⟩
   have F1 := Lib.hid (F0.out.call b1)
   clear b1
   obtain ⟨⟨r0, r1, r2, r3, r4, r5, r6⟩, ⟨z0, z1, z2, z3, z4, z5, z6⟩, ⟨y0, y1, y2, y3, y4, y5, y6⟩, ⟨x0, x1, x2, x3, x4, x5, x6⟩, hlt0, hlt1⟩ := F1.out.cells
   go_wp2_with fail
   refine (sis F1.out.st tc _ HQ.out).mono ?_
   rintro e w2 ⟨rfl, b2⟩
   clear r0 r1 r2 r3 r4 r5 r6 z0 z1 z2 z3 z4 z5 z6 y0 y1 y2 y3 y4 y5 y6 x0 x1 x2 x3 x4 x5 x6 hlt0 hlt1
   have F2 := Lib.hid (F1.out.call b2)
   clear b2 F1
   obtain ⟨⟨r0, r1, r2, r3, r4, r5, r6⟩, ⟨z0, z1, z2, z3, z4, z5, z6⟩, ⟨y0, y1, y2, y3, y4, y5, y6⟩, ⟨x0, x1, x2, x3, x4, x5, x6⟩, hlt0, hlt1⟩ := F2.out.cells
   go_wp2_with fail
   refine (sfail F2.out.st tc 5 (by decide)).mono ?_
   rintro e w3 ⟨v, rfl, ⟨i3, EA3, ne3, ec3, d3, c3, p3, rfl, h3⟩, b3⟩
   clear r0 r1 r2 r3 r4 r5 r6 z0 z1 z2 z3 z4 z5 z6 y0 y1 y2 y3 y4 y5 y6 x0 x1 x2 x3 x4 x5 x6 hlt0 hlt1
   have F3 := Lib.hid (F2.out.call b3)
   obtain ⟨⟨r0, r1, r2, r3, r4, r5, r6⟩, ⟨z0, z1, z2, z3, z4, z5, z6⟩, ⟨y0, y1, y2, y3, y4, y5, y6⟩, ⟨x0, x1, x2, x3, x4, x5, x6⟩, hlt0, hlt1⟩ := F3.out.cells
   go_wp2
   obtain ⟨wS, hwS⟩ : ∃ wS, wS = (((((((w3).setCell ⟨w.heap.size + 1, 0, none⟩ (.slice TA n tc)).setCell ⟨w.heap.size + 1, 1, none⟩ (.int .i64 ((i3 : Nat) : Int))).setCell ⟨w.heap.size + 1, 2, none⟩ (.slice SA ns sc)).setCell ⟨w.heap.size + 1, 3, none⟩ (.slice EA3 ne3 ec3)).setCell ⟨w.heap.size + 1, 4, none⟩ (.int .i64 ((d3 : Nat) : Int))).setCell ⟨w.heap.size + 1, 5, none⟩ (.int .i64 ((c3 : Nat) : Int))).setCell ⟨w.heap.size + 1, 6, none⟩ (.int .i64 ((p3 : Nat) : Int)) := ⟨_, rfl⟩
   rw [← hwS]
   obtain ⟨f1, f2, f3⟩ := F2.out.fin b3 h3 hwS
   obtain ⟨g0, g1, g2, g3, g4, g5, g6⟩ := cells7 f1
   clear hwS f1
   exact bodyPost_ret (v := .tuple #[.agg #[.slice TA n tc, .int .i64 ((i3 : Nat) : Int), .slice SA ns sc, .slice EA3 ne3 ec3, .int .i64 ((d3 : Nat) : Int), .int .i64 ((c3 : Nat) : Int), .int .i64 ((p3 : Nat) : Int)], .int .i64 ((0 : Nat) : Int)]) (by simp [results, Tryz.results176, go_sem, g0, g1, g2, g3, g4, g5, g6]) rfl ⟨_, by rw [HR.out], by rw [HR.out]; exact f2.ro, f3⟩
  ·have hlt := isP_lt hq
   have HB := Lib.hid (fun w i EA ne ec d c p (h' : ST X TA L { advP s with deep := s.deep + 1 } w n SA ns sc i EA ne ec d c p) => (IH.out f (Nat.le_refl _)).sign h' (by have := HF.out; show 12 * (L.length - (s.i + 1)) + 3 ≤ f; omega))
   have g2 := (allG L f).sign { advP s with deep := s.deep + 1 }
   obtain ⟨sb, vb, hB⟩ : ∃ sb vb, signP L f { advP s with deep := s.deep + 1 } = (sb, vb) := ⟨_, _, rfl⟩
   rw [hB] at HB g2
   have h2 : sb.es.length + (s.i + 1) + 0 ≤ s.es.length + sb.i := g2.he
   have h3 : s.i + 1 ≤ sb.i := g2.hi
   have h6 : sb.deep = s.deep + 1 := g2.hd
   have HBIG := Lib.hid (show (riseP sb).es.length + 1 ≤ (riseP sb).i from by show sb.es.length + 1 ≤ sb.i; omega)
   have HDB := Lib.hid (show 1 ≤ sb.deep ∧ sb.deep ≤ 32 from by omega)
   obtain ⟨sd, vd, hC⟩ : ∃ sd vd, putP (riseP sb) ⟨3, noB, 0, [vb], ps⟩ = (sd, vd) := ⟨_, _, rfl⟩
   have HC := Lib.hid hC
   have HR := Lib.hid (show signP L (f + 1) s = (sd, vd) from by
    rw [signP]
    have e : sinkP L s = ({ s with deep := s.deep + 1 }, true) := by unfold sinkP; exact if_neg hd
    have e' : signP L f (advP { s with deep := s.deep + 1 }) = (sb, vb) := hB
    simp only [hq, e, e', HNOW.out, if_true, hC])
   have HQ := Lib.hid hq
   have HLT := Lib.hid hlt
   have HDD := Lib.hid (show s.deep < 32 by omega)
   have HIA := Lib.hid (show i ≤ 1000 ∧ d < 32 from by omega)
   have q1 : decide ((32 : Int) ≤ (d : Int)) = false := by rw [decide_eq_false_iff_not]; omega
   clear hq hlt g2 hB hC h2 h3 h6 e1 e2 e3 e4 e5 e6 hd
   go_enter Tryz.func176, Tryz.ntmps176
   go_wp2_with fail
   refine (snow F0.out.st tc HNOW.out).mono ?_
   rintro e w1 ⟨rfl, b1⟩
   have F1 := Lib.hid (F0.out.call b1)
   clear b1
   obtain ⟨⟨r0, r1, r2, r3, r4, r5, r6⟩, ⟨z0, z1, z2, z3, z4, z5, z6⟩, ⟨y0, y1, y2, y3, y4, y5, y6⟩, ⟨x0, x1, x2, x3, x4, x5, x6⟩, hlt0, hlt1⟩ := F1.out.cells
   go_wp2_with fail
   refine (sis F1.out.st tc _ HQ.out).mono ?_
   rintro e w2 ⟨rfl, b2⟩
   clear r0 r1 r2 r3 r4 r5 r6 z0 z1 z2 z3 z4 z5 z6 y0 y1 y2 y3 y4 y5 y6 x0 x1 x2 x3 x4 x5 x6 hlt0 hlt1
   have F2 := Lib.hid (F1.out.call b2)
   clear b2 F1
   obtain ⟨⟨r0, r1, r2, r3, r4, r5, r6⟩, ⟨z0, z1, z2, z3, z4, z5, z6⟩, ⟨y0, y1, y2, y3, y4, y5, y6⟩, ⟨x0, x1, x2, x3, x4, x5, x6⟩, hlt0, hlt1⟩ := F2.out.cells
   obtain ⟨hi1, hd1⟩ := HIA.out
   go_wp2_with fail
   obtain ⟨i4, hi4⟩ : ∃ i4, i4 = i + 1 := ⟨_, rfl⟩
   obtain ⟨d4, hd4⟩ : ∃ d4, d4 = d + 1 := ⟨_, rfl⟩
   obtain ⟨w4, hw4⟩ : ∃ w4, w4 = (w2.setCell ⟨w.heap.size, 1, none⟩ (.int .i64 ((i : Int) + 1))).setCell ⟨w.heap.size, 4, none⟩ (.int .i64 ((d : Int) + 1)) := ⟨_, rfl⟩
   have F4 := Lib.hid (show FR X TA L n SA ns sc tc w w4 { advP s with deep := s.deep + 1 } i4 EA ne ec d4 c p #[(.slice none 0 0), (.int .i64 0), (.slice none 0 0), (.slice none 0 0), (.int .i64 0), (.int .i64 0), (.int .i64 0)] [] from by rw [hw4]; exact (F2.out.adv HLT.out hi4).deepen HDD.out hd4)
   have h4i : ((i : Int) + 1) = ((i4 : Nat) : Int) := by rw [hi4]; rfl
   have h4d : ((d : Int) + 1) = ((d4 : Nat) : Int) := by rw [hd4]; rfl
   try rw [← hw4]
   simp only [h4i, h4d]
   clear r0 r1 r2 r3 r4 r5 r6 z0 z1 z2 z3 z4 z5 z6 y0 y1 y2 y3 y4 y5 y6 x0 x1 x2 x3 x4 x5 x6 hlt0 hlt1
   clear hw4 h4i hi4 h4d hd4 hi1 hd1 F2
   refine (HB.out _ _ _ _ _ _ _ _ F4.out.st).mono ?_
   rintro e w5 ⟨v, rfl, ⟨i5, EA5, ne5, ec5, d5, c5, p5, rfl, h5⟩, b5⟩
   have F5 := Lib.hid (F4.out.call b5)
   have hd5 : 1 ≤ d5 ∧ d5 ≤ 32 := by rw [h5.ed]; exact HDB.out
   obtain ⟨⟨r0, r1, r2, r3, r4, r5, r6⟩, ⟨z0, z1, z2, z3, z4, z5, z6⟩, ⟨y0, y1, y2, y3, y4, y5, y6⟩, ⟨x0, x1, x2, x3, x4, x5, x6⟩, hlt0, hlt1⟩ := F5.out.cells
   go_wp2_with fail
   obtain ⟨d6, hd6⟩ : ∃ d6, d6 = d5 - 1 := ⟨_, rfl⟩
   have h5d : ((d5 : Int) - 1) = ((d6 : Nat) : Int) := by omega
   obtain ⟨w6, hw6⟩ : ∃ w6, w6 = w5.alloc (.cells #[.slice TA n tc, .int .i64 ((i5 : Nat) : Int), .slice SA ns sc, .slice EA5 ne5 ec5, .int .i64 ((d5 : Int) - 1), .int .i64 ((c5 : Nat) : Int), .int .i64 ((p5 : Nat) : Int)] 165) := ⟨_, rfl⟩
   have hs6 : w5.heap.size + 1 = w6.heap.size := by rw [hw6]; simp
   have F6 := Lib.hid (F5.out.alloc (.cells #[.slice TA n tc, .int .i64 ((i5 : Nat) : Int), .slice SA ns sc, .slice EA5 ne5 ec5, .int .i64 ((d5 : Int) - 1), .int .i64 ((c5 : Nat) : Int), .int .i64 ((p5 : Nat) : Int)] 165))
   have H6 := Lib.hid ((h5.rise hd6).alloc (.cells #[.slice TA n tc, .int .i64 ((i5 : Nat) : Int), .slice SA ns sc, .slice EA5 ne5 ec5, .int .i64 ((d5 : Int) - 1), .int .i64 ((c5 : Nat) : Int), .int .i64 ((p5 : Nat) : Int)] 165))
   rw [← hw6] at F6 H6
   rw [← hw6]
   simp only [hs6, h5d]
   clear r0 r1 r2 r3 r4 r5 r6 z0 z1 z2 z3 z4 z5 z6 y0 y1 y2 y3 y4 y5 y6 x0 x1 x2 x3 x4 x5 x6 hlt0 hlt1
   clear hw6 hs6 h5d hd6 hd5 F5 b5 h5
   refine (sput ⟨3, noB, 0, [vb], ps⟩ (some ⟨w6.heap.size, 0, none⟩) 1 1 (st_args H6.out _) tc (rargs1 H6.out vb) HBIG.out).mono ?_
   rintro e w7 ⟨v, rfl, h7, b7⟩
   rw [HC.out] at h7
   obtain ⟨i7, EA7, ne7, ec7, d7, c7, p7, rfl, h7⟩ := h7
   try simp only [HC.out]
   have F7 := Lib.hid (F6.out.alloc (.cells #[.int .i64 ((vb : Nat) : Int)] 3))
   have F8 := Lib.hid (F7.out.call b7)
   obtain ⟨⟨r0, r1, r2, r3, r4, r5, r6⟩, ⟨z0, z1, z2, z3, z4, z5, z6⟩, ⟨y0, y1, y2, y3, y4, y5, y6⟩, ⟨x0, x1, x2, x3, x4, x5, x6⟩, hlt0, hlt1⟩ := F8.out.cells
   go_wp2
   obtain ⟨wS, hwS⟩ : ∃ wS, wS = (((((((w7).setCell ⟨w.heap.size + 1, 0, none⟩ (.slice TA n tc)).setCell ⟨w.heap.size + 1, 1, none⟩ (.int .i64 ((i7 : Nat) : Int))).setCell ⟨w.heap.size + 1, 2, none⟩ (.slice SA ns sc)).setCell ⟨w.heap.size + 1, 3, none⟩ (.slice EA7 ne7 ec7)).setCell ⟨w.heap.size + 1, 4, none⟩ (.int .i64 ((d7 : Nat) : Int))).setCell ⟨w.heap.size + 1, 5, none⟩ (.int .i64 ((c7 : Nat) : Int))).setCell ⟨w.heap.size + 1, 6, none⟩ (.int .i64 ((p7 : Nat) : Int)) := ⟨_, rfl⟩
   rw [← hwS]
   obtain ⟨f1, f2, f3⟩ := F7.out.fin b7 h7 hwS
   obtain ⟨g0, g1, g2, g3, g4, g5, g6⟩ := cells7 f1
   clear hwS f1
   exact bodyPost_ret (v := .tuple #[.agg #[.slice TA n tc, .int .i64 ((i7 : Nat) : Int), .slice SA ns sc, .slice EA7 ne7 ec7, .int .i64 ((d7 : Nat) : Int), .int .i64 ((c7 : Nat) : Int), .int .i64 ((p7 : Nat) : Int)], .int .i64 ((vd : Nat) : Int)]) (by simp [results, Tryz.results176, go_sem, g0, g1, g2, g3, g4, g5, g6]) rfl ⟨_, by rw [HR.out], by rw [HR.out]; exact f2.ro, f3⟩
 | false =>
  obtain ⟨f, rfl⟩ : ∃ g, f = g + 1 := ⟨f - 1, by have := HF.out; omega⟩
  have HS := Lib.hid ((IH.out f (by omega)).atom F0.out.st (by have := HF.out; omega))
  have g1 := (allG L f).atom s
  obtain ⟨sa, va, hA⟩ : ∃ sa va, atomP L f s = (sa, va) := ⟨_, _, rfl⟩
  rw [hA] at HS g1
  have HA := Lib.hid hA
  obtain ⟨R, hR⟩ : ∃ R, R = postLoopP L f sa va := ⟨_, rfl⟩
  have hRR : signP L (f + 1 + 1) s = R := by rw [signP]; simp only [hq]; show postP L (f + 1) s = R; rw [postP, hA, hR]
  rw [hRR]
  have HR0 := Lib.hid hR
  have hi1 : s.i ≤ sa.i := g1.hi
  have HFA := Lib.hid (show 12 * (L.length - sa.i) + 1 ≤ f by have := HF.out; omega)
  have HQ := Lib.hid hq
  clear hA g1 hR hRR hi1 hq e1 e2 e3 e4 e5 e6
  go_enter Tryz.func176, Tryz.ntmps176
  go_wp2_with fail
  refine (snow F0.out.st tc HNOW.out).mono ?_
  rintro e w1 ⟨rfl, b1⟩
  have F1 := Lib.hid (F0.out.call b1)
  clear b1
  obtain ⟨⟨r0, r1, r2, r3, r4, r5, r6⟩, ⟨z0, z1, z2, z3, z4, z5, z6⟩, ⟨y0, y1, y2, y3, y4, y5, y6⟩, ⟨x0, x1, x2, x3, x4, x5, x6⟩, hlt0, hlt1⟩ := F1.out.cells
  go_wp2_with fail
  refine (sis F1.out.st tc _ HQ.out).mono ?_
  rintro e w2 ⟨rfl, b2⟩
  clear r0 r1 r2 r3 r4 r5 r6 z0 z1 z2 z3 z4 z5 z6 y0 y1 y2 y3 y4 y5 y6 x0 x1 x2 x3 x4 x5 x6 hlt0 hlt1
  have F2 := Lib.hid (F1.out.call b2)
  clear b2 F1
  have HS2 := Lib.hid ((IH.out f (by omega)).atom F2.out.st (by have := HF.out; omega))
  rw [HA.out] at HS2
  obtain ⟨⟨r0, r1, r2, r3, r4, r5, r6⟩, ⟨z0, z1, z2, z3, z4, z5, z6⟩, ⟨y0, y1, y2, y3, y4, y5, y6⟩, ⟨x0, x1, x2, x3, x4, x5, x6⟩, hlt0, hlt1⟩ := F2.out.cells
  go_wp2_with fail
  refine HS2.out.mono ?_
  rintro e w3 ⟨v, rfl, ⟨i3, EA3, ne3, ec3, d3, c3, p3, rfl, h3⟩, b3⟩
  have F3 := Lib.hid (F2.out.call b3)
  obtain ⟨⟨r0, r1, r2, r3, r4, r5, r6⟩, ⟨z0, z1, z2, z3, z4, z5, z6⟩, ⟨y0, y1, y2, y3, y4, y5, y6⟩, ⟨x0, x1, x2, x3, x4, x5, x6⟩, hlt0, hlt1⟩ := F3.out.cells
  go_wp2
  obtain ⟨w5, hwS⟩ : ∃ wS, wS = (((((((w3).setCell ⟨w.heap.size, 0, none⟩ (.slice TA n tc)).setCell ⟨w.heap.size, 1, none⟩ (.int .i64 ((i3 : Nat) : Int))).setCell ⟨w.heap.size, 2, none⟩ (.slice SA ns sc)).setCell ⟨w.heap.size, 3, none⟩ (.slice EA3 ne3 ec3)).setCell ⟨w.heap.size, 4, none⟩ (.int .i64 ((d3 : Nat) : Int))).setCell ⟨w.heap.size, 5, none⟩ (.int .i64 ((c3 : Nat) : Int))).setCell ⟨w.heap.size, 6, none⟩ (.int .i64 ((p3 : Nat) : Int)) := ⟨_, rfl⟩
  rw [← hwS]
  have F5 := Lib.hid (F2.out.take b3 h3 hwS)
  have hsz : w3.heap.size = w5.heap.size := by rw [hwS]; simp [World.setCell]
  try simp only [hsz]
  clear hsz hwS b3 h3
  clear r0 r1 r2 r3 r4 r5 r6 z0 z1 z2 z3 z4 z5 z6 y0 y1 y2 y3 y4 y5 y6 x0 x1 x2 x3 x4 x5 x6 hlt0 hlt1
  clear F3 F2 HS2 F0 HNOW
  go_loopw [4, 7] (fun tv av wr => JR X TA tc L n SA ns sc w f R (postLoopP L) av wr) (fun tv av wr => L.length - curI w.heap.size wr)
  case atStart => exact ⟨f, sa, va, _, _, _, _, _, _, _, Nat.le_refl _, HR0.out, rfl, F5.out, HFA.out⟩
  case round =>
   obtain ⟨f', s', a', ia, EAa, nea, eca, da, ca, pa, hf', hr, rfl, fa, hn⟩ := hrel
   obtain ⟨f', rfl⟩ : ∃ g, f' = g + 1 := ⟨f' - 1, by omega⟩
   have FA := Lib.hid fa
   have hcur := Lib.hid fa.cur
   have HRR := Lib.hid hr
   have HN := Lib.hid hn
   obtain ⟨kd, tx, nm, ps, hnow⟩ : ∃ kd tx nm ps, nowP L s' = ⟨kd, tx, nm, ps⟩ := ⟨_, _, _, _, rfl⟩
   have HNOW := Lib.hid hnow
   clear fa F5 hr hnow HR0 HFA hn
   obtain ⟨⟨r0, r1, r2, r3, r4, r5, r6⟩, ⟨z0, z1, z2, z3, z4, z5, z6⟩, ⟨y0, y1, y2, y3, y4, y5, y6⟩, ⟨x0, x1, x2, x3, x4, x5, x6⟩, hlt0, hlt1⟩ := FA.out.cells
   cases hq0 : isP L s' tShift with
   | true =>
    have hlt := isP_lt hq0
    obtain ⟨e1, e2, e3, e4, e5, e6⟩ := FA.out.st.el
    have g2 := G.number (L := L) (advP s')
    have hv := number_le (L := L) (advP s')
    obtain ⟨sb, vb, hB⟩ : ∃ sb vb, numberP L (advP s') = (sb, vb) := ⟨_, _, rfl⟩
    rw [hB] at g2 hv
    have h2 : sb.es.length + (s'.i + 1) + 0 ≤ s'.es.length + sb.i := g2.he
    have h3 : s'.i + 1 ≤ sb.i := g2.hi
    have HBIG := Lib.hid (show sb.es.length + 1 ≤ sb.i from by omega)
    obtain ⟨sd, vd, hC⟩ : ∃ sd vd, putP sb ⟨9, noB, vb, [a'], ps⟩ = (sd, vd) := ⟨_, _, rfl⟩
    have hci : sd.i = sb.i := by
     have e : sd = (putP sb ⟨9, noB, vb, [a'], ps⟩).1 := by rw [hC]
     rw [e, put_i]
    have HCI := Lib.hid hci
    have HC := Lib.hid hC
    have HNUM := Lib.hid hB
    have HX := Lib.hid (show R = postLoopP L f' sd vd from by rw [HRR.out, postLoopP]; simp only [hq0, hB, HNOW.out, hC]; rfl)
    have HQ1 := Lib.hid hq0
    have HLT := Lib.hid hlt
    have HH3 := Lib.hid h3
    have HIA := Lib.hid (show ia ≤ 1000 from by omega)
    have hu : IntKind.u64.wrap ((vb : Nat) : Int) = ((vb : Nat) : Int) := by
     have h9 : vb ≤ 1048576 := hv
     rw [wrapN]; omega
    clear hlt g2 hB hC h2 h3 hci e1 e2 e3 e4 e5 e6 hq0 hv
    go_wp2_with fail
    refine (sis FA.out.st tc _ HQ1.out).mono ?_
    rintro e w2 ⟨rfl, b2⟩
    clear r0 r1 r2 r3 r4 r5 r6 z0 z1 z2 z3 z4 z5 z6 y0 y1 y2 y3 y4 y5 y6 x0 x1 x2 x3 x4 x5 x6 hlt0 hlt1
    have F2 := Lib.hid (FA.out.call b2)
    clear b2
    obtain ⟨⟨r0, r1, r2, r3, r4, r5, r6⟩, ⟨z0, z1, z2, z3, z4, z5, z6⟩, ⟨y0, y1, y2, y3, y4, y5, y6⟩, ⟨x0, x1, x2, x3, x4, x5, x6⟩, hlt0, hlt1⟩ := F2.out.cells
    go_wp2_with fail
    refine (snow F2.out.st tc HNOW.out).mono ?_
    rintro e w3 ⟨rfl, b3⟩
    clear r0 r1 r2 r3 r4 r5 r6 z0 z1 z2 z3 z4 z5 z6 y0 y1 y2 y3 y4 y5 y6 x0 x1 x2 x3 x4 x5 x6 hlt0 hlt1
    have F3 := Lib.hid (F2.out.call b3)
    clear b3
    obtain ⟨⟨r0, r1, r2, r3, r4, r5, r6⟩, ⟨z0, z1, z2, z3, z4, z5, z6⟩, ⟨y0, y1, y2, y3, y4, y5, y6⟩, ⟨x0, x1, x2, x3, x4, x5, x6⟩, hlt0, hlt1⟩ := F3.out.cells
    have hia : ia ≤ 1000 := HIA.out
    go_wp2_with fail
    obtain ⟨i4, hi4⟩ : ∃ i4, i4 = ia + 1 := ⟨_, rfl⟩
    obtain ⟨w4, hw4⟩ : ∃ w4, w4 = w3.setCell ⟨w.heap.size, 1, none⟩ (.int .i64 ((ia : Int) + 1)) := ⟨_, rfl⟩
    have F4 := Lib.hid (show FR X TA L n SA ns sc tc w w4 (advP s') i4 EAa nea eca da ca pa #[(.slice none 0 0), (.int .i64 0), (.slice none 0 0), (.slice none 0 0), (.int .i64 0), (.int .i64 0), (.int .i64 0)] [] from by rw [hw4]; exact F3.out.adv HLT.out hi4)
    have h4i : ((ia : Int) + 1) = ((i4 : Nat) : Int) := by rw [hi4]; rfl
    try rw [← hw4]
    simp only [h4i]
    clear r0 r1 r2 r3 r4 r5 r6 z0 z1 z2 z3 z4 z5 z6 y0 y1 y2 y3 y4 y5 y6 x0 x1 x2 x3 x4 x5 x6 hlt0 hlt1
    clear hw4 h4i hi4 hia
    refine (snumber F4.out.st tc).mono ?_
    rintro e w5 ⟨v, rfl, h5, b5⟩
    rw [HNUM.out] at h5
    obtain ⟨i5, EA5, ne5, ec5, d5, c5, p5, rfl, h5⟩ := h5
    try simp only [HNUM.out]
    have F5 := Lib.hid (F4.out.call b5)
    obtain ⟨⟨r0, r1, r2, r3, r4, r5, r6⟩, ⟨z0, z1, z2, z3, z4, z5, z6⟩, ⟨y0, y1, y2, y3, y4, y5, y6⟩, ⟨x0, x1, x2, x3, x4, x5, x6⟩, hlt0, hlt1⟩ := F5.out.cells
    go_wp2_with fail
    obtain ⟨w6, hwS⟩ : ∃ wS, wS = (((((((w5).setCell ⟨w.heap.size, 0, none⟩ (.slice TA n tc)).setCell ⟨w.heap.size, 1, none⟩ (.int .i64 ((i5 : Nat) : Int))).setCell ⟨w.heap.size, 2, none⟩ (.slice SA ns sc)).setCell ⟨w.heap.size, 3, none⟩ (.slice EA5 ne5 ec5)).setCell ⟨w.heap.size, 4, none⟩ (.int .i64 ((d5 : Nat) : Int))).setCell ⟨w.heap.size, 5, none⟩ (.int .i64 ((c5 : Nat) : Int))).setCell ⟨w.heap.size, 6, none⟩ (.int .i64 ((p5 : Nat) : Int)) := ⟨_, rfl⟩
    rw [← hwS]
    have F6 := Lib.hid (F4.out.take b5 h5 hwS)
    have hsz : w5.heap.size = w6.heap.size := by rw [hwS]; simp [World.setCell]
    try simp only [hsz]
    clear hsz hwS b5 h5
    clear r0 r1 r2 r3 r4 r5 r6 z0 z1 z2 z3 z4 z5 z6 y0 y1 y2 y3 y4 y5 y6 x0 x1 x2 x3 x4 x5 x6 hlt0 hlt1
    clear F5
    refine (sput ⟨9, noB, vb, [a'], ps⟩ (some ⟨w6.heap.size, 0, none⟩) 1 1 (st_args F6.out.st _) tc (rargs1 F6.out.st a') HBIG.out).mono ?_
    rintro e w7 ⟨v, rfl, h7, b7⟩
    rw [HC.out] at h7
    obtain ⟨i7, EA7, ne7, ec7, d7, c7, p7, rfl, h7⟩ := h7
    try simp only [HC.out]
    have F7 := Lib.hid (F6.out.alloc (.cells #[.int .i64 ((a' : Nat) : Int)] 3))
    have F8 := Lib.hid (F7.out.call b7)
    obtain ⟨⟨r0, r1, r2, r3, r4, r5, r6⟩, ⟨z0, z1, z2, z3, z4, z5, z6⟩, ⟨y0, y1, y2, y3, y4, y5, y6⟩, ⟨x0, x1, x2, x3, x4, x5, x6⟩, hlt0, hlt1⟩ := F8.out.cells
    go_wp2_with fail
    obtain ⟨w9, hwS⟩ : ∃ wS, wS = (((((((w7).setCell ⟨w.heap.size, 0, none⟩ (.slice TA n tc)).setCell ⟨w.heap.size, 1, none⟩ (.int .i64 ((i7 : Nat) : Int))).setCell ⟨w.heap.size, 2, none⟩ (.slice SA ns sc)).setCell ⟨w.heap.size, 3, none⟩ (.slice EA7 ne7 ec7)).setCell ⟨w.heap.size, 4, none⟩ (.int .i64 ((d7 : Nat) : Int))).setCell ⟨w.heap.size, 5, none⟩ (.int .i64 ((c7 : Nat) : Int))).setCell ⟨w.heap.size, 6, none⟩ (.int .i64 ((p7 : Nat) : Int)) := ⟨_, rfl⟩
    rw [← hwS]
    have F9 := Lib.hid (F7.out.take b7 h7 hwS)
    have hsz : w7.heap.size = w9.heap.size := by rw [hwS]; simp [World.setCell]
    try simp only [hsz]
    clear hsz hwS b7 h7
    clear r0 r1 r2 r3 r4 r5 r6 z0 z1 z2 z3 z4 z5 z6 y0 y1 y2 y3 y4 y5 y6 x0 x1 x2 x3 x4 x5 x6 hlt0 hlt1
    clear F8
    refine ⟨⟨f', sd, vd, _, _, _, _, _, _, _, by omega, HX.out, rfl, F9.out.drop, by have := HN.out; have := HCI.out; have := HH3.out; have := HLT.out; omega⟩, ?_⟩
    have e1 := F9.out.cur
    have e2 := hcur.out
    have e3 := HCI.out
    have e4 := HH3.out
    have e5 := HLT.out
    simp only [e1, e2]
    omega
   | false =>
    have HR := Lib.hid (show R = (s', a') from by rw [HRR.out, postLoopP]; simp only [hq0]; rfl)
    have HQ1 := Lib.hid hq0
    clear hq0
    go_wp2_with fail
    refine (sis FA.out.st tc _ HQ1.out).mono ?_
    rintro e w2 ⟨rfl, b2⟩
    clear r0 r1 r2 r3 r4 r5 r6 z0 z1 z2 z3 z4 z5 z6 y0 y1 y2 y3 y4 y5 y6 x0 x1 x2 x3 x4 x5 x6 hlt0 hlt1
    have F2 := Lib.hid (FA.out.call b2)
    clear b2
    obtain ⟨⟨r0, r1, r2, r3, r4, r5, r6⟩, ⟨z0, z1, z2, z3, z4, z5, z6⟩, ⟨y0, y1, y2, y3, y4, y5, y6⟩, ⟨x0, x1, x2, x3, x4, x5, x6⟩, hlt0, hlt1⟩ := F2.out.cells
    go_wp2
    obtain ⟨wS, hwS⟩ : ∃ wS, wS = (((((((w2).setCell ⟨w.heap.size + 1, 0, none⟩ (.slice TA n tc)).setCell ⟨w.heap.size + 1, 1, none⟩ (.int .i64 ((ia : Nat) : Int))).setCell ⟨w.heap.size + 1, 2, none⟩ (.slice SA ns sc)).setCell ⟨w.heap.size + 1, 3, none⟩ (.slice EAa nea eca)).setCell ⟨w.heap.size + 1, 4, none⟩ (.int .i64 ((da : Nat) : Int))).setCell ⟨w.heap.size + 1, 5, none⟩ (.int .i64 ((ca : Nat) : Int))).setCell ⟨w.heap.size + 1, 6, none⟩ (.int .i64 ((pa : Nat) : Int)) := ⟨_, rfl⟩
    rw [← hwS]
    obtain ⟨f1, f2, f3⟩ := F2.out.fin (Below.refl _ _) F2.out.st hwS
    obtain ⟨g0, g1, g2, g3, g4, g5, g6⟩ := cells7 f1
    clear hwS f1
    exact bodyPost_ret (v := .tuple #[.agg #[.slice TA n tc, .int .i64 ((ia : Nat) : Int), .slice SA ns sc, .slice EAa nea eca, .int .i64 ((da : Nat) : Int), .int .i64 ((ca : Nat) : Int), .int .i64 ((pa : Nat) : Int)], .int .i64 ((a' : Nat) : Int)]) (by simp [results, Tryz.results176, go_sem, g0, g1, g2, g3, g4, g5, g6]) rfl ⟨_, by rw [HR.out], by rw [HR.out]; exact f2.ro, f3⟩
end
end Go.Proofs.YtghlnncfigkkaaaGreatDoor
namespace Go.Proofs.YtghlnncfigkkaaaGreatDoor
set_option linter.unusedVariables false
set_option linter.unusedSimpArgs false
open Go.RowKit
attribute [local go_sem ↓] tok_field3 tok_field0
section
variable {X Y : Nat → Prop} {TA SA : Option Addr} {tc n ns sc : Nat} {L : List Tok} {s s' : PS} {w0 w w1 w' wS : World} {i ne ec d c p : Nat} {EA : Option Addr} {b : Array Value} {Q : List (Nat × Obj)}
theorem FR.grown {A A' : Option Addr} {cap cap' b0 : Nat} {xs xs' : List Value} (h : FR (XA X A) TA L n SA ns sc tc w0 w s i EA ne ec d c p b Q) (ho : Own w b0 3 A cap xs) (hb0 : w0.heap.size + 1 < b0) (hq : ∀ q ∈ Q, q.1 < b0)
  (hg : w.grownBy w' (blk A)) (ho' : Own w' b0 3 A' cap' xs') (hA' : blk A' = blk A ∨ blk A' = some w.heap.size) : FR (XA X A') TA L n SA ns sc tc w0 w' s i EA ne ec d c p b Q := by
 have hY : ∀ k, XA X A' k → XA X A k ∨ w.heap.size ≤ k := fun k hk => by
  rcases hk with hk | hk
  ·exact .inl (.inl hk)
  ·rcases hA' with e | e
   ·exact .inl (.inr (e.symm.trans hk))
   ·rw [e] at hk
    injection hk with hk
    exact .inr (Nat.le_of_eq hk)
 have hZ : ∀ k, (XA X A k ∨ XA X A' k) → XA X A k ∨ w.heap.size ≤ k := fun k hk => hk.elim .inl (hY k)
 have hin : ∀ g cur, ¬ XA X A g → w.heap[g]? = some (.cells cur 3 (0, 0)) → w'.heap[g]? = some (.cells cur 3 (0, 0)) := fun g cur hx hc => by
  rw [hg.block g (Array.getElem?_eq_some_iff.1 hc).1 (fun e => hx (.inr e.symm))]
  exact hc
 have hlow : ∀ k, k < b0 → k < w.heap.size → w'.heap[k]? = w.heap[k]? := fun k hk hs => hg.block k hs (fun e => by
  rcases own_form ho with rfl | ⟨g, cur, rfl, hbg, hc⟩
  ·simp [blk] at e
  ·have e' : k = g := by simpa [blk] using e
   omega)
 have hne : ∀ (k : Nat) (cs : Array Value) (T : TypeId) (fr : Nat × Nat), w.heap[k]? = some (.cells cs T fr) → T ≠ 3 → w'.heap[k]? = some (.cells cs T fr) := fun k cs T fr hk hT => by
  rw [hg.block k (Array.getElem?_eq_some_iff.1 hk).1 (fun e => by
   rcases own_form ho with rfl | ⟨g, cur, rfl, _, hc⟩
   ·simp [blk] at e
   ·have e' : k = g := by simpa [blk] using e
    subst e'
    rw [hc] at hk
    injection hk with hk
    injection hk with _ hk _
    exact hT hk.symm)]
  exact hk
 have hB : Below w0.heap.size w0 w' := ⟨hg.os.trans h.bx.hb.os, hg.tape.trans h.bx.hb.tape, hg.output.trans h.bx.hb.output, Nat.le_trans h.bx.hb.size hg.size, fun k hk => (hlow k (by omega) (by have := h.bx.lt; omega)).trans (h.bx.hb.block k hk)⟩
 refine ⟨⟨hne _ _ _ _ h.bx.k0 (by decide), hne _ _ _ _ h.bx.k1 (by decide), hB, Nat.lt_of_lt_of_le h.bx.lt hg.size⟩, ⟨⟨?_, ?_, (h.t0.below hB).more hB.size, h.st.rr.err, h.st.rr.len, h.st.rr.ii, h.st.rr.dd, h.st.rr.el, h.st.rr.sl, ?_⟩, h.st.en, h.st.ens, h.st.ei, h.st.ene, h.st.ed, h.st.ecc, h.st.ep⟩, h.t0, fun q hq1 => ?_⟩
 ·exact ((h.st.rr.ownS.re hZ).keep' (fun g cur hx => hin g cur (fun e => hx (.inl e))) (fun g cur _ hg' => hne g _ _ _ hg' (by decide))).re fun k hk => .inl (.inr hk)
 ·exact ((h.st.rr.ownE.re hZ).keep' (fun g cur hx => hin g cur (fun e => hx (.inl e))) (fun g cur _ hg' => hne g _ _ _ hg' (by decide))).re fun k hk => .inl (.inr hk)
 ·intro k hk
  rcases hk with hk | hk
  ·exact Nat.lt_of_lt_of_le (h.st.rr.xx k (.inl hk)) hg.size
  ·exact (ho'.lt k hk).2
 ·have e := h.ex q hq1
  exact ⟨e.1, (hlow q.1 (hq q hq1) (Array.getElem?_eq_some_iff.1 e.2).1).trans e.2⟩
theorem RR.wide {Y : Nat → Prop} (h : RR Y TA L s w SA sc EA ec) (hX : ∀ k, X k → Y k) : RR X TA L s w SA sc EA ec :=
 ⟨h.ownS.re fun k hk => .inl (hX k hk), h.ownE.re fun k hk => .inl (hX k hk), h.toks, h.err, h.len, h.ii, h.dd, h.el, h.sl, fun k hk => h.xx k (hX k hk)⟩
theorem ST.wide (h : ST Y TA L s w n SA ns sc i EA ne ec d c p) (hX : ∀ k, X k → Y k) : ST X TA L s w n SA ns sc i EA ne ec d c p := ⟨h.rr.wide hX, h.en, h.ens, h.ei, h.ene, h.ed, h.ecc, h.ep⟩
theorem FR.wide (h : FR Y TA L n SA ns sc tc w0 w s i EA ne ec d c p b Q) (hX : ∀ k, X k → Y k) : FR X TA L n SA ns sc tc w0 w s i EA ne ec d c p b Q := ⟨h.bx, h.st.wide hX, h.t0, h.ex⟩
theorem ST.xnil (h : ST X TA L s w n SA ns sc i EA ne ec d c p) : ST (XA X none) TA L s w n SA ns sc i EA ne ec d c p := h.wide fun k hk => by
 rcases hk with hk | hk
 ·exact hk
 ·simp [blk] at hk
theorem FR.xnil (h : FR X TA L n SA ns sc tc w0 w s i EA ne ec d c p b Q) : FR (XA X none) TA L n SA ns sc tc w0 w s i EA ne ec d c p b Q := ⟨h.bx, h.st.xnil, h.t0, h.ex⟩
theorem FR.al (h : FR X TA L n SA ns sc tc w0 w s i EA ne ec d c p b Q) (o : Obj) : FR X TA L n SA ns sc tc w0 (w.alloc o) s i EA ne ec d c p b Q := h.call (one_new w o)
theorem FR.takeO {i1 ne1 ec1 d1 c1 p1 : Nat} {EA1 : Option Addr} {A : Option Addr} {cap B : Nat} {xs : List Value} (h : FR X TA L n SA ns sc tc w0 w s i EA ne ec d c p b Q) (hb : Below w.heap.size w w1) (hO : Own w1 B 3 A cap xs)
  (hS : wS = (((((((w1).setCell ⟨w0.heap.size, 0, none⟩ (.slice TA n tc)).setCell ⟨w0.heap.size, 1, none⟩ (.int .i64 ((i1 : Nat) : Int))).setCell ⟨w0.heap.size, 2, none⟩ (.slice SA ns sc)).setCell ⟨w0.heap.size, 3, none⟩ (.slice EA1 ne1 ec1)).setCell ⟨w0.heap.size, 4, none⟩ (.int .i64 ((d1 : Nat) : Int))).setCell ⟨w0.heap.size, 5, none⟩ (.int .i64 ((c1 : Nat) : Int))).setCell ⟨w0.heap.size, 6, none⟩ (.int .i64 ((p1 : Nat) : Int))) : Own wS B 3 A cap xs :=
 own_keep hO fun g cur _ hg => only_ne (h.bx.call hb).k0 (st7 (h.bx.call hb).k0 hS).2.1 g cur 3 hg (by decide)
theorem FR.setO {A : Option Addr} {cap B : Nat} {xs : List Value} (h : FR X TA L n SA ns sc tc w0 w s i EA ne ec d c p b Q) (hO : Own w B 3 A cap xs) (k : Nat) (v : Value) : Own (w.setCell ⟨w0.heap.size, k, none⟩ v) B 3 A cap xs :=
 own_keep hO fun g cur _ hg => only_ne h.bx.k0 (fun j hj => setCell_ne _ _ _ hj) g cur 3 hg (by decide)
theorem FR.tok {g kd nm ps : Nat} {tx : ByteArray} (h : FR X TA L n SA ns sc tc w0 w s i EA ne ec d c p b ((g, .cells #[.int .i64 kd, .string tx, .int .u64 nm, .int .i64 ps] 155) :: Q)) :
  w.cell? ⟨g, 0, none⟩ = some (.int .i64 kd) ∧ w.cell? ⟨g, 1, none⟩ = some (.string tx) ∧ w.cell? ⟨g, 2, none⟩ = some (.int .u64 nm) ∧ w.cell? ⟨g, 3, none⟩ = some (.int .i64 ps) ∧ w0.heap.size + 1 < g ∧ g < w.heap.size := by
 obtain ⟨h1, h2⟩ := h.ex _ (List.mem_cons_self ..)
 exact ⟨cell_of_row _ _ 0 _ _ _ h2, cell_of_row _ _ 1 _ _ _ h2, cell_of_row _ _ 2 _ _ _ h2, cell_of_row _ _ 3 _ _ _ h2, h1, (Array.getElem?_eq_some_iff.1 h2).1⟩
def RA (X : Nat → Prop) (TA : Option Addr) (tc : Nat) (L : List Tok) (n : Nat) (SA : Option Addr) (ns sc : Nat) (w : World) (B m : Nat) (Q : List (Nat × Obj)) (K : Nat → PS → List Nat → Prop) (av iv : Value) (wr : World) : Prop :=
 ∃ (j : Nat) (s' : PS) (l : List Nat) (A : Option Addr) (cap i : Nat) (EA : Option Addr) (ne ec d c p : Nat), j ≤ m ∧ iv = .int .i64 j ∧ av = .slice A j cap ∧ l.length = j ∧ K j s' l ∧ FR (XA X A) TA L n SA ns sc tc w wr s' i EA ne ec d c p #[(.slice none 0 0), (.int .i64 0), (.slice none 0 0), (.slice none 0 0), (.int .i64 0), (.int .i64 0), (.int .i64 0)] Q ∧ Own wr B 3 A cap (l.map I64) ∧ B ≤ wr.heap.size
def KPar (so sb : PS) (vb : Nat) (j : Nat) (s' : PS) (l : List Nat) : Prop := (j = 0 ∧ s' = so ∧ l = []) ∨ (j = 1 ∧ s' = sb ∧ l = [vb])
def KCal (L : List Tok) (f cn : Nat) (R : PS × List Nat) (j : Nat) (s' : PS) (l : List Nat) : Prop := ∃ f', f' ≤ f ∧ R = argsP L f' (cn - j) s' l ∧ 12 * (L.length - s'.i) + 7 + (cn - j) ≤ f'
theorem own_one {w : World} {B cap : Nat} {A : Option Addr} {v : Value} (h : Own w B 3 A cap [v]) : ∃ g, A = some ⟨g, 0, none⟩ ∧ w.cell? ⟨g, 0, none⟩ = some v ∧ B ≤ g := by
 rcases h.2 with ⟨_, h0⟩ | ⟨g, cap', cur, hv, hb1, hg, h1, h2, h3, h4⟩
 ·cases h0
 ·refine ⟨g, by injection hv, ?_, hb1⟩
  rw [cell_of_row w g 0 _ _ (0, 0) hg]
  have h5 : (cur.toList.take ([v].length * 1))[0]? = some v := by rw [h4]; rfl
  rw [List.getElem?_take] at h5
  split at h5
  ·simpa using h5
  ·cases h5
set_option maxRecDepth 100000 in
set_option maxHeartbeats 4000000 in
theorem ratom_err (f : Nat) (ih : ∀ f', f' ≤ f → AllR TA tc L n SA ns sc f') (h : ST X TA L s w n SA ns sc i EA ne ec d c p) (hf : 12 * (L.length - s.i) + 1 ≤ f + 1) (x : Nat × Nat) (herr : s.err = some x) :
  Calls Tryz.prog 202 #[.agg #[.slice TA n tc, .int .i64 ((i : Nat) : Int), .slice SA ns sc, .slice EA ne ec, .int .i64 ((d : Nat) : Int), .int .i64 ((c : Nat) : Int), .int .i64 ((p : Nat) : Int)]] w (RLv X TA tc L n SA ns sc w (atomP L (f + 1) s)) := by
 have F0 := Lib.hid (FR.made (tc := tc) h #[(.slice none 0 0), (.int .i64 0), (.slice none 0 0), (.slice none 0 0), (.int .i64 0), (.int .i64 0), (.int .i64 0)])
 obtain ⟨kd, tx, nm, ps, hnow⟩ : ∃ kd tx nm ps, nowP L s = ⟨kd, tx, nm, ps⟩ := ⟨_, _, _, _, rfl⟩
 obtain ⟨e1, e2, e3, e4, e5, e6⟩ := h.el
 have HNOW := Lib.hid hnow
 have IH := Lib.hid ih
 have HF := Lib.hid hf
 have HR := Lib.hid (show atomP L (f + 1) s = (s, 0) from by rw [atomP]; simp only [herr]; rfl)
 have hc1 : c ≠ 0 := by rw [h.ecc]; unfold eC; rw [herr]; exact h.rr.err x.1 x.2 (by rw [herr])
 have q0 : ((c : Int) == 0) = false := by rw [beq_eq_false_iff_ne]; omega
 have q0' : ((c : Int) != 0) = true := by rw [bne_iff_ne]; omega
 clear ih hnow h hf e1 e2 e3 e4 e5 e6 hc1 herr
 go_enter Tryz.func202, Tryz.ntmps202
 go_wp2_with fail
 refine (snow F0.out.st tc HNOW.out).mono ?_
 rintro e w1 ⟨rfl, b1⟩
 have F1 := Lib.hid (F0.out.call b1)
 have F2 := Lib.hid (F1.out.alloc (.cells #[.int .i64 ((kd : Nat) : Int), .string tx, .int .u64 ((nm : Nat) : Int), .int .i64 ((ps : Nat) : Int)] 155))
 clear b1
 obtain ⟨⟨r0, r1, r2, r3, r4, r5, r6⟩, ⟨z0, z1, z2, z3, z4, z5, z6⟩, ⟨y0, y1, y2, y3, y4, y5, y6⟩, ⟨x0, x1, x2, x3, x4, x5, x6⟩, hlt0, hlt1⟩ := F1.out.cells
 go_wp2
 obtain ⟨wS, hwS⟩ : ∃ wS, wS = (((((((w1).setCell ⟨w.heap.size + 1, 0, none⟩ (.slice TA n tc)).setCell ⟨w.heap.size + 1, 1, none⟩ (.int .i64 ((i : Nat) : Int))).setCell ⟨w.heap.size + 1, 2, none⟩ (.slice SA ns sc)).setCell ⟨w.heap.size + 1, 3, none⟩ (.slice EA ne ec)).setCell ⟨w.heap.size + 1, 4, none⟩ (.int .i64 ((d : Nat) : Int))).setCell ⟨w.heap.size + 1, 5, none⟩ (.int .i64 ((c : Nat) : Int))).setCell ⟨w.heap.size + 1, 6, none⟩ (.int .i64 ((p : Nat) : Int)) := ⟨_, rfl⟩
 rw [← hwS]
 obtain ⟨f1, f2, f3⟩ := F1.out.fin (Below.refl _ _) F1.out.st hwS
 have f4 := bl_on f1 (one_new wS (.cells #[.int .i64 ((kd : Nat) : Int), .string tx, .int .u64 ((nm : Nat) : Int), .int .i64 ((ps : Nat) : Int)] 155))
 have f5 := f2.alloc (.cells #[.int .i64 ((kd : Nat) : Int), .string tx, .int .u64 ((nm : Nat) : Int), .int .i64 ((ps : Nat) : Int)] 155)
 have f6 := bnext f3 (one_new wS (.cells #[.int .i64 ((kd : Nat) : Int), .string tx, .int .u64 ((nm : Nat) : Int), .int .i64 ((ps : Nat) : Int)] 155))
 obtain ⟨g0, g1, g2, g3, g4, g5, g6⟩ := cells7 f4
 clear hwS f1 f4
 exact bodyPost_ret (v := .tuple #[.agg #[.slice TA n tc, .int .i64 ((i : Nat) : Int), .slice SA ns sc, .slice EA ne ec, .int .i64 ((d : Nat) : Int), .int .i64 ((c : Nat) : Int), .int .i64 ((p : Nat) : Int)], .int .i64 ((0 : Nat) : Int)]) (by simp [results, Tryz.results202, go_sem, g0, g1, g2, g3, g4, g5, g6]) rfl ⟨_, by rw [HR.out], by rw [HR.out]; exact f5.ro, f6⟩
set_option maxRecDepth 100000 in
set_option maxHeartbeats 4000000 in
theorem ratom_num (f : Nat) (ih : ∀ f', f' ≤ f → AllR TA tc L n SA ns sc f') (h : ST X TA L s w n SA ns sc i EA ne ec d c p) (hf : 12 * (L.length - s.i) + 1 ≤ f + 1) (herr : s.err = none) (h2 : (nowP L s).kind = 2) :
  Calls Tryz.prog 202 #[.agg #[.slice TA n tc, .int .i64 ((i : Nat) : Int), .slice SA ns sc, .slice EA ne ec, .int .i64 ((d : Nat) : Int), .int .i64 ((c : Nat) : Int), .int .i64 ((p : Nat) : Int)]] w (RLv X TA tc L n SA ns sc w (atomP L (f + 1) s)) := by
 have F0 := Lib.hid (FR.made (tc := tc) h #[(.slice none 0 0), (.int .i64 0), (.slice none 0 0), (.slice none 0 0), (.int .i64 0), (.int .i64 0), (.int .i64 0)])
 obtain ⟨kd, tx, nm, ps, hnow⟩ : ∃ kd tx nm ps, nowP L s = ⟨kd, tx, nm, ps⟩ := ⟨_, _, _, _, rfl⟩
 obtain ⟨e1, e2, e3, e4, e5, e6⟩ := h.el
 have HNOW := Lib.hid hnow
 have IH := Lib.hid ih
 have HF := Lib.hid hf
 have hc0 : c = 0 := by rw [h.ecc]; unfold eC; rw [herr]
 have q0 : ((c : Int) == 0) = true := by rw [beq_iff_eq]; omega
 have q0' : ((c : Int) != 0) = false := by rw [bne_eq_false_iff_eq]; omega
 have HERR := Lib.hid herr
 rw [hnow] at h2
 have h2' : kd = 2 := h2
 have q2 : ((kd : Int) == 2) = true := by rw [h2']; rfl
 have Q2 : Hid ((kd == 2) = true) := by show (kd == 2) = true; rw [h2']; rfl
 have q1 : ((kd : Int) == 1) = false := by rw [h2']; rfl
 have Q1 : Hid ((kd == 1) = false) := by show (kd == 1) = false; rw [h2']; rfl
 have hlt : s.i < L.length := now_lt (by rw [HNOW.out]; show kd ≠ 0; omega)
 obtain ⟨sd, vd, hC⟩ : ∃ sd vd, putP (advP s) ⟨1, noB, nm, [], ps⟩ = (sd, vd) := ⟨_, _, rfl⟩
 have HR := Lib.hid (show atomP L (f + 1) s = (sd, vd) from by rw [atomP]; simp only [HERR.out, HNOW.out, Q2.out, Q1.out, hC]; rfl)
 have HC := Lib.hid hC
 have HLT := Lib.hid hlt
 have HBIG := Lib.hid (show (advP s).es.length + 1 ≤ (advP s).i from by show s.es.length + 1 ≤ s.i + 1; omega)
 have HIA := Lib.hid (show i ≤ 1000 from by omega)
 clear hC herr h2 h2' ih h hnow hf e1 e2 e3 e4 e5 e6 hlt hc0
 go_enter Tryz.func202, Tryz.ntmps202
 go_wp2_with fail
 refine (snow F0.out.st tc HNOW.out).mono ?_
 rintro e w1 ⟨rfl, b1⟩
 have F1 := Lib.hid (F0.out.call b1)
 have F2 := Lib.hid (F1.out.alloc (.cells #[.int .i64 ((kd : Nat) : Int), .string tx, .int .u64 ((nm : Nat) : Int), .int .i64 ((ps : Nat) : Int)] 155))
 clear b1
 obtain ⟨⟨r0, r1, r2, r3, r4, r5, r6⟩, ⟨z0, z1, z2, z3, z4, z5, z6⟩, ⟨y0, y1, y2, y3, y4, y5, y6⟩, ⟨x0, x1, x2, x3, x4, x5, x6⟩, hlt0, hlt1⟩ := F1.out.cells
 have hia : i ≤ 1000 := HIA.out
 go_wp2_with fail
 obtain ⟨i4, hi4⟩ : ∃ i4, i4 = i + 1 := ⟨_, rfl⟩
 obtain ⟨w4, hw4⟩ : ∃ w4, w4 = (w1.setCell ⟨w.heap.size, 1, none⟩ (.int .i64 ((i : Int) + 1))).alloc (.cells #[.int .i64 ((kd : Nat) : Int), .string tx, .int .u64 ((nm : Nat) : Int), .int .i64 ((ps : Nat) : Int)] 155) := ⟨_, rfl⟩
 have F4 := Lib.hid (show FR X TA L n SA ns sc tc w w4 (advP s) i4 EA ne ec d c p #[(.slice none 0 0), (.int .i64 0), (.slice none 0 0), (.slice none 0 0), (.int .i64 0), (.int .i64 0), (.int .i64 0)] [] from by rw [hw4]; exact (F1.out.adv HLT.out hi4).al _)
 have h4i : ((i : Int) + 1) = ((i4 : Nat) : Int) := by rw [hi4]; rfl
 try rw [← hw4]
 simp only [h4i]
 clear r0 r1 r2 r3 r4 r5 r6 z0 z1 z2 z3 z4 z5 z6 y0 y1 y2 y3 y4 y5 y6 x0 x1 x2 x3 x4 x5 x6 hlt0 hlt1
 clear hw4 h4i hi4 hia F2 F1
 refine (sput ⟨1, noB, nm, [], ps⟩ none 0 0 F4.out.st.xnil tc (ArgsV.nil _ _ _) HBIG.out).mono ?_
 rintro e w7 ⟨v, rfl, h7, b7⟩
 rw [HC.out] at h7
 obtain ⟨i7, EA7, ne7, ec7, d7, c7, p7, rfl, h7⟩ := h7
 try simp only [HC.out]
 have F8 := Lib.hid (F4.out.call b7)
 obtain ⟨⟨r0, r1, r2, r3, r4, r5, r6⟩, ⟨z0, z1, z2, z3, z4, z5, z6⟩, ⟨y0, y1, y2, y3, y4, y5, y6⟩, ⟨x0, x1, x2, x3, x4, x5, x6⟩, hlt0, hlt1⟩ := F8.out.cells
 go_wp2
 obtain ⟨wS, hwS⟩ : ∃ wS, wS = (((((((w7).setCell ⟨w.heap.size + 1, 0, none⟩ (.slice TA n tc)).setCell ⟨w.heap.size + 1, 1, none⟩ (.int .i64 ((i7 : Nat) : Int))).setCell ⟨w.heap.size + 1, 2, none⟩ (.slice SA ns sc)).setCell ⟨w.heap.size + 1, 3, none⟩ (.slice EA7 ne7 ec7)).setCell ⟨w.heap.size + 1, 4, none⟩ (.int .i64 ((d7 : Nat) : Int))).setCell ⟨w.heap.size + 1, 5, none⟩ (.int .i64 ((c7 : Nat) : Int))).setCell ⟨w.heap.size + 1, 6, none⟩ (.int .i64 ((p7 : Nat) : Int)) := ⟨_, rfl⟩
 rw [← hwS]
 obtain ⟨f1, f2, f3⟩ := F4.out.fin b7 h7 hwS
 obtain ⟨g0, g1, g2, g3, g4, g5, g6⟩ := cells7 f1
 clear hwS f1
 exact bodyPost_ret (v := .tuple #[.agg #[.slice TA n tc, .int .i64 ((i7 : Nat) : Int), .slice SA ns sc, .slice EA7 ne7 ec7, .int .i64 ((d7 : Nat) : Int), .int .i64 ((c7 : Nat) : Int), .int .i64 ((p7 : Nat) : Int)], .int .i64 ((vd : Nat) : Int)]) (by simp [results, Tryz.results202, go_sem, g0, g1, g2, g3, g4, g5, g6]) rfl ⟨_, by rw [HR.out], by rw [HR.out]; exact f2.ro, f3⟩
set_option maxRecDepth 100000 in
set_option maxHeartbeats 4000000 in
theorem ratom_name (f : Nat) (ih : ∀ f', f' ≤ f → AllR TA tc L n SA ns sc f') (h : ST X TA L s w n SA ns sc i EA ne ec d c p) (hf : 12 * (L.length - s.i) + 1 ≤ f + 1) (herr : s.err = none) (h2 : (nowP L s).kind = 1) :
  Calls Tryz.prog 202 #[.agg #[.slice TA n tc, .int .i64 ((i : Nat) : Int), .slice SA ns sc, .slice EA ne ec, .int .i64 ((d : Nat) : Int), .int .i64 ((c : Nat) : Int), .int .i64 ((p : Nat) : Int)]] w (RLv X TA tc L n SA ns sc w (atomP L (f + 1) s)) := by
 have F0 := Lib.hid (FR.made (tc := tc) h #[(.slice none 0 0), (.int .i64 0), (.slice none 0 0), (.slice none 0 0), (.int .i64 0), (.int .i64 0), (.int .i64 0)])
 obtain ⟨kd, tx, nm, ps, hnow⟩ : ∃ kd tx nm ps, nowP L s = ⟨kd, tx, nm, ps⟩ := ⟨_, _, _, _, rfl⟩
 obtain ⟨e1, e2, e3, e4, e5, e6⟩ := h.el
 have HNOW := Lib.hid hnow
 have IH := Lib.hid ih
 have HF := Lib.hid hf
 have hc0 : c = 0 := by rw [h.ecc]; unfold eC; rw [herr]
 have q0 : ((c : Int) == 0) = true := by rw [beq_iff_eq]; omega
 have q0' : ((c : Int) != 0) = false := by rw [bne_eq_false_iff_eq]; omega
 have HERR := Lib.hid herr
 rw [hnow] at h2
 have h2' : kd = 1 := h2
 have q2 : ((kd : Int) == 2) = false := by rw [h2']; rfl
 have Q2 : Hid ((kd == 2) = false) := by show (kd == 2) = false; rw [h2']; rfl
 have q1 : ((kd : Int) == 1) = true := by rw [h2']; rfl
 have Q1 : Hid ((kd == 1) = true) := by show (kd == 1) = true; rw [h2']; rfl
 have hlt : s.i < L.length := now_lt (by rw [HNOW.out]; show kd ≠ 0; omega)
 obtain ⟨sd, vd, hC⟩ : ∃ sd vd, putP (advP s) ⟨2, tx, 0, [], ps⟩ = (sd, vd) := ⟨_, _, rfl⟩
 have HR := Lib.hid (show atomP L (f + 1) s = (sd, vd) from by rw [atomP]; simp only [HERR.out, HNOW.out, Q2.out, Q1.out, hC]; rfl)
 have HC := Lib.hid hC
 have HLT := Lib.hid hlt
 have HBIG := Lib.hid (show (advP s).es.length + 1 ≤ (advP s).i from by show s.es.length + 1 ≤ s.i + 1; omega)
 have HIA := Lib.hid (show i ≤ 1000 from by omega)
 clear hC herr h2 h2' ih h hnow hf e1 e2 e3 e4 e5 e6 hlt hc0
 go_enter Tryz.func202, Tryz.ntmps202
 go_wp2_with fail
 refine (snow F0.out.st tc HNOW.out).mono ?_
 rintro e w1 ⟨rfl, b1⟩
 have F1 := Lib.hid (F0.out.call b1)
 have F2 := Lib.hid (F1.out.alloc (.cells #[.int .i64 ((kd : Nat) : Int), .string tx, .int .u64 ((nm : Nat) : Int), .int .i64 ((ps : Nat) : Int)] 155))
 clear b1
 obtain ⟨⟨r0, r1, r2, r3, r4, r5, r6⟩, ⟨z0, z1, z2, z3, z4, z5, z6⟩, ⟨y0, y1, y2, y3, y4, y5, y6⟩, ⟨x0, x1, x2, x3, x4, x5, x6⟩, hlt0, hlt1⟩ := F1.out.cells
 have hia : i ≤ 1000 := HIA.out
 go_wp2_with fail
 obtain ⟨i4, hi4⟩ : ∃ i4, i4 = i + 1 := ⟨_, rfl⟩
 obtain ⟨w4, hw4⟩ : ∃ w4, w4 = (w1.setCell ⟨w.heap.size, 1, none⟩ (.int .i64 ((i : Int) + 1))).alloc (.cells #[.int .i64 ((kd : Nat) : Int), .string tx, .int .u64 ((nm : Nat) : Int), .int .i64 ((ps : Nat) : Int)] 155) := ⟨_, rfl⟩
 have F4 := Lib.hid (show FR X TA L n SA ns sc tc w w4 (advP s) i4 EA ne ec d c p #[(.slice none 0 0), (.int .i64 0), (.slice none 0 0), (.slice none 0 0), (.int .i64 0), (.int .i64 0), (.int .i64 0)] [] from by rw [hw4]; exact (F1.out.adv HLT.out hi4).al _)
 have h4i : ((i : Int) + 1) = ((i4 : Nat) : Int) := by rw [hi4]; rfl
 try rw [← hw4]
 simp only [h4i]
 clear r0 r1 r2 r3 r4 r5 r6 z0 z1 z2 z3 z4 z5 z6 y0 y1 y2 y3 y4 y5 y6 x0 x1 x2 x3 x4 x5 x6 hlt0 hlt1
 clear hw4 h4i hi4 hia F2 F1
 refine (sput ⟨2, tx, 0, [], ps⟩ none 0 0 F4.out.st.xnil tc (ArgsV.nil _ _ _) HBIG.out).mono ?_
 rintro e w7 ⟨v, rfl, h7, b7⟩
 rw [HC.out] at h7
 obtain ⟨i7, EA7, ne7, ec7, d7, c7, p7, rfl, h7⟩ := h7
 try simp only [HC.out]
 have F8 := Lib.hid (F4.out.call b7)
 obtain ⟨⟨r0, r1, r2, r3, r4, r5, r6⟩, ⟨z0, z1, z2, z3, z4, z5, z6⟩, ⟨y0, y1, y2, y3, y4, y5, y6⟩, ⟨x0, x1, x2, x3, x4, x5, x6⟩, hlt0, hlt1⟩ := F8.out.cells
 go_wp2
 obtain ⟨wS, hwS⟩ : ∃ wS, wS = (((((((w7).setCell ⟨w.heap.size + 1, 0, none⟩ (.slice TA n tc)).setCell ⟨w.heap.size + 1, 1, none⟩ (.int .i64 ((i7 : Nat) : Int))).setCell ⟨w.heap.size + 1, 2, none⟩ (.slice SA ns sc)).setCell ⟨w.heap.size + 1, 3, none⟩ (.slice EA7 ne7 ec7)).setCell ⟨w.heap.size + 1, 4, none⟩ (.int .i64 ((d7 : Nat) : Int))).setCell ⟨w.heap.size + 1, 5, none⟩ (.int .i64 ((c7 : Nat) : Int))).setCell ⟨w.heap.size + 1, 6, none⟩ (.int .i64 ((p7 : Nat) : Int)) := ⟨_, rfl⟩
 rw [← hwS]
 obtain ⟨f1, f2, f3⟩ := F4.out.fin b7 h7 hwS
 obtain ⟨g0, g1, g2, g3, g4, g5, g6⟩ := cells7 f1
 clear hwS f1
 exact bodyPost_ret (v := .tuple #[.agg #[.slice TA n tc, .int .i64 ((i7 : Nat) : Int), .slice SA ns sc, .slice EA7 ne7 ec7, .int .i64 ((d7 : Nat) : Int), .int .i64 ((c7 : Nat) : Int), .int .i64 ((p7 : Nat) : Int)], .int .i64 ((vd : Nat) : Int)]) (by simp [results, Tryz.results202, go_sem, g0, g1, g2, g3, g4, g5, g6]) rfl ⟨_, by rw [HR.out], by rw [HR.out]; exact f2.ro, f3⟩
set_option maxRecDepth 100000 in
set_option maxHeartbeats 4000000 in
theorem ratom_bad (f : Nat) (ih : ∀ f', f' ≤ f → AllR TA tc L n SA ns sc f') (h : ST X TA L s w n SA ns sc i EA ne ec d c p) (hf : 12 * (L.length - s.i) + 1 ≤ f + 1) (herr : s.err = none) (h2 : (nowP L s).kind ≠ 2) (h1 : (nowP L s).kind ≠ 1) (hn : (callP (nowP L s)).2 = 0) (hq : isP L s tOpen = false) :
  Calls Tryz.prog 202 #[.agg #[.slice TA n tc, .int .i64 ((i : Nat) : Int), .slice SA ns sc, .slice EA ne ec, .int .i64 ((d : Nat) : Int), .int .i64 ((c : Nat) : Int), .int .i64 ((p : Nat) : Int)]] w (RLv X TA tc L n SA ns sc w (atomP L (f + 1) s)) := by
 have F0 := Lib.hid (FR.made (tc := tc) h #[(.slice none 0 0), (.int .i64 0), (.slice none 0 0), (.slice none 0 0), (.int .i64 0), (.int .i64 0), (.int .i64 0)])
 obtain ⟨kd, tx, nm, ps, hnow⟩ : ∃ kd tx nm ps, nowP L s = ⟨kd, tx, nm, ps⟩ := ⟨_, _, _, _, rfl⟩
 obtain ⟨e1, e2, e3, e4, e5, e6⟩ := h.el
 have HNOW := Lib.hid hnow
 have IH := Lib.hid ih
 have HF := Lib.hid hf
 have hc0 : c = 0 := by rw [h.ecc]; unfold eC; rw [herr]
 have q0 : ((c : Int) == 0) = true := by rw [beq_iff_eq]; omega
 have q0' : ((c : Int) != 0) = false := by rw [bne_eq_false_iff_eq]; omega
 have HERR := Lib.hid herr
 obtain ⟨ck, cn, hc⟩ : ∃ ck cn, callP ⟨kd, tx, nm, ps⟩ = (ck, cn) := ⟨_, _, rfl⟩
 have hcn : cn ≤ 3 := by
  rcases call_cases ⟨kd, tx, nm, ps⟩ with h | h | h | h | h | h <;> rw [hc] at h <;> injection h <;> omega
 have HCL := Lib.hid hc
 rw [hnow] at h2 h1
 have q2 : ((kd : Int) == 2) = false := by rw [beq_eq_false_iff_ne]; dsimp only at h2; omega
 have Q2 : Hid ((kd == 2) = false) := by show (kd == 2) = false; rw [beq_eq_false_iff_ne]; exact h2
 have q1 : ((kd : Int) == 1) = false := by rw [beq_eq_false_iff_ne]; dsimp only at h1; omega
 have Q1 : Hid ((kd == 1) = false) := by show (kd == 1) = false; rw [beq_eq_false_iff_ne]; exact h1
 have HAT := Lib.hid (show atomP L (f + 1) s = (if (!isP L s tOpen) && (cn == 0) then (failP L s 130, 0) else
   if (sinkP L s).2 then
    if cn == 0 then (riseP (wantP L (exprP L f (advP (sinkP L s).1)).1 tShut), (exprP L f (advP (sinkP L s).1)).2)
    else putP (riseP (wantP L (argsP L f cn (wantP L (advP (sinkP L s).1) tOpen) []).1 tShut)) ⟨ck, noB, 0, (argsP L f cn (wantP L (advP (sinkP L s).1) tOpen) []).2, ps⟩
   else ((sinkP L s).1, 0)) from by rw [atomP]; simp only [HERR.out, HNOW.out, Q1.out, Q2.out, HCL.out]; rfl)
 clear herr h2 h1 hc0
 rw [hnow, hc] at hn
 obtain rfl : cn = 0 := hn
 have HR := Lib.hid (show atomP L (f + 1) s = (failP L s 130, 0) from by rw [HAT.out, hq]; rfl)
 have HQ := Lib.hid hq
 clear hq ih h hnow hc hf e1 e2 e3 e4 e5 e6 hcn
 go_enter Tryz.func202, Tryz.ntmps202
 go_wp2_with fail
 refine (snow F0.out.st tc HNOW.out).mono ?_
 rintro e w1 ⟨rfl, b1⟩
 have F1 := Lib.hid (F0.out.call b1)
 have F2 := Lib.hid (F1.out.alloc (.cells #[.int .i64 ((kd : Nat) : Int), .string tx, .int .u64 ((nm : Nat) : Int), .int .i64 ((ps : Nat) : Int)] 155))
 clear b1
 obtain ⟨⟨r0, r1, r2, r3, r4, r5, r6⟩, ⟨z0, z1, z2, z3, z4, z5, z6⟩, ⟨y0, y1, y2, y3, y4, y5, y6⟩, ⟨x0, x1, x2, x3, x4, x5, x6⟩, hlt0, hlt1⟩ := F1.out.cells
 go_wp2_with fail
 have HCA := calls_any F2.out.st tc
 rw [HNOW.out, HCL.out] at HCA
 refine HCA.mono ?_
 clear HCA
 rintro e w3 ⟨rfl, b3⟩
 clear r0 r1 r2 r3 r4 r5 r6 z0 z1 z2 z3 z4 z5 z6 y0 y1 y2 y3 y4 y5 y6 x0 x1 x2 x3 x4 x5 x6 hlt0 hlt1
 have F3 := Lib.hid (F2.out.call b3)
 clear b3 F1 F2
 obtain ⟨t0, t1, t2, t3, tg0, tg1⟩ := F3.out.tok
 obtain ⟨⟨r0, r1, r2, r3, r4, r5, r6⟩, ⟨z0, z1, z2, z3, z4, z5, z6⟩, ⟨y0, y1, y2, y3, y4, y5, y6⟩, ⟨x0, x1, x2, x3, x4, x5, x6⟩, hlt0, hlt1⟩ := F3.out.cells
 go_wp2_with fail
 refine (sis F3.out.st tc _ HQ.out).mono ?_
 rintro e w4 ⟨rfl, b4⟩
 clear r0 r1 r2 r3 r4 r5 r6 z0 z1 z2 z3 z4 z5 z6 y0 y1 y2 y3 y4 y5 y6 x0 x1 x2 x3 x4 x5 x6 hlt0 hlt1
 clear t0 t1 t2 t3 tg0 tg1
 have F4 := Lib.hid (F3.out.call b4)
 clear b4 F3
 obtain ⟨t0, t1, t2, t3, tg0, tg1⟩ := F4.out.tok
 obtain ⟨⟨r0, r1, r2, r3, r4, r5, r6⟩, ⟨z0, z1, z2, z3, z4, z5, z6⟩, ⟨y0, y1, y2, y3, y4, y5, y6⟩, ⟨x0, x1, x2, x3, x4, x5, x6⟩, hlt0, hlt1⟩ := F4.out.cells
 go_wp2_with fail
 refine (sfail F4.out.st tc 130 (by decide)).mono ?_
 rintro e w5 ⟨v, rfl, ⟨i5, EA5, ne5, ec5, d5, c5, p5, rfl, h5⟩, b5⟩
 clear r0 r1 r2 r3 r4 r5 r6 z0 z1 z2 z3 z4 z5 z6 y0 y1 y2 y3 y4 y5 y6 x0 x1 x2 x3 x4 x5 x6 hlt0 hlt1
 have F5 := Lib.hid (F4.out.call b5)
 obtain ⟨⟨r0, r1, r2, r3, r4, r5, r6⟩, ⟨z0, z1, z2, z3, z4, z5, z6⟩, ⟨y0, y1, y2, y3, y4, y5, y6⟩, ⟨x0, x1, x2, x3, x4, x5, x6⟩, hlt0, hlt1⟩ := F5.out.cells
 go_wp2
 obtain ⟨wS, hwS⟩ : ∃ wS, wS = (((((((w5).setCell ⟨w.heap.size + 1, 0, none⟩ (.slice TA n tc)).setCell ⟨w.heap.size + 1, 1, none⟩ (.int .i64 ((i5 : Nat) : Int))).setCell ⟨w.heap.size + 1, 2, none⟩ (.slice SA ns sc)).setCell ⟨w.heap.size + 1, 3, none⟩ (.slice EA5 ne5 ec5)).setCell ⟨w.heap.size + 1, 4, none⟩ (.int .i64 ((d5 : Nat) : Int))).setCell ⟨w.heap.size + 1, 5, none⟩ (.int .i64 ((c5 : Nat) : Int))).setCell ⟨w.heap.size + 1, 6, none⟩ (.int .i64 ((p5 : Nat) : Int)) := ⟨_, rfl⟩
 rw [← hwS]
 obtain ⟨f1, f2, f3⟩ := F4.out.fin b5 h5 hwS
 obtain ⟨g0, g1, g2, g3, g4, g5, g6⟩ := cells7 f1
 clear hwS f1
 exact bodyPost_ret (v := .tuple #[.agg #[.slice TA n tc, .int .i64 ((i5 : Nat) : Int), .slice SA ns sc, .slice EA5 ne5 ec5, .int .i64 ((d5 : Nat) : Int), .int .i64 ((c5 : Nat) : Int), .int .i64 ((p5 : Nat) : Int)], .int .i64 ((0 : Nat) : Int)]) (by simp [results, Tryz.results202, go_sem, g0, g1, g2, g3, g4, g5, g6]) rfl ⟨_, by rw [HR.out], by rw [HR.out]; exact f2.ro, f3⟩
set_option maxRecDepth 100000 in
set_option maxHeartbeats 4000000 in
theorem ratom_deepP (f : Nat) (ih : ∀ f', f' ≤ f → AllR TA tc L n SA ns sc f') (h : ST X TA L s w n SA ns sc i EA ne ec d c p) (hf : 12 * (L.length - s.i) + 1 ≤ f + 1) (herr : s.err = none) (h2 : (nowP L s).kind ≠ 2) (h1 : (nowP L s).kind ≠ 1) (hn : (callP (nowP L s)).2 = 0) (hq : isP L s tOpen = true) (hd : s.deep = 32) :
  Calls Tryz.prog 202 #[.agg #[.slice TA n tc, .int .i64 ((i : Nat) : Int), .slice SA ns sc, .slice EA ne ec, .int .i64 ((d : Nat) : Int), .int .i64 ((c : Nat) : Int), .int .i64 ((p : Nat) : Int)]] w (RLv X TA tc L n SA ns sc w (atomP L (f + 1) s)) := by
 have F0 := Lib.hid (FR.made (tc := tc) h #[(.slice none 0 0), (.int .i64 0), (.slice none 0 0), (.slice none 0 0), (.int .i64 0), (.int .i64 0), (.int .i64 0)])
 obtain ⟨kd, tx, nm, ps, hnow⟩ : ∃ kd tx nm ps, nowP L s = ⟨kd, tx, nm, ps⟩ := ⟨_, _, _, _, rfl⟩
 obtain ⟨e1, e2, e3, e4, e5, e6⟩ := h.el
 have HNOW := Lib.hid hnow
 have IH := Lib.hid ih
 have HF := Lib.hid hf
 have hc0 : c = 0 := by rw [h.ecc]; unfold eC; rw [herr]
 have q0 : ((c : Int) == 0) = true := by rw [beq_iff_eq]; omega
 have q0' : ((c : Int) != 0) = false := by rw [bne_eq_false_iff_eq]; omega
 have HERR := Lib.hid herr
 obtain ⟨ck, cn, hc⟩ : ∃ ck cn, callP ⟨kd, tx, nm, ps⟩ = (ck, cn) := ⟨_, _, rfl⟩
 have hcn : cn ≤ 3 := by
  rcases call_cases ⟨kd, tx, nm, ps⟩ with h | h | h | h | h | h <;> rw [hc] at h <;> injection h <;> omega
 have HCL := Lib.hid hc
 rw [hnow] at h2 h1
 have q2 : ((kd : Int) == 2) = false := by rw [beq_eq_false_iff_ne]; dsimp only at h2; omega
 have Q2 : Hid ((kd == 2) = false) := by show (kd == 2) = false; rw [beq_eq_false_iff_ne]; exact h2
 have q1 : ((kd : Int) == 1) = false := by rw [beq_eq_false_iff_ne]; dsimp only at h1; omega
 have Q1 : Hid ((kd == 1) = false) := by show (kd == 1) = false; rw [beq_eq_false_iff_ne]; exact h1
 have HAT := Lib.hid (show atomP L (f + 1) s = (if (!isP L s tOpen) && (cn == 0) then (failP L s 130, 0) else
   if (sinkP L s).2 then
    if cn == 0 then (riseP (wantP L (exprP L f (advP (sinkP L s).1)).1 tShut), (exprP L f (advP (sinkP L s).1)).2)
    else putP (riseP (wantP L (argsP L f cn (wantP L (advP (sinkP L s).1) tOpen) []).1 tShut)) ⟨ck, noB, 0, (argsP L f cn (wantP L (advP (sinkP L s).1) tOpen) []).2, ps⟩
   else ((sinkP L s).1, 0)) from by rw [atomP]; simp only [HERR.out, HNOW.out, Q1.out, Q2.out, HCL.out]; rfl)
 clear herr h2 h1 hc0
 rw [hnow, hc] at hn
 obtain rfl : cn = 0 := hn
 have HR := Lib.hid (show atomP L (f + 1) s = (failP L s 5, 0) from by rw [HAT.out]; simp only [sinkP, hd]; first | (rw [hq]; rfl) | (rw [qn']; simp))
 have qd : decide ((32 : Int) ≤ (d : Int)) = true := by rw [decide_eq_true_eq]; omega
 have HQ := Lib.hid hq
 clear hnow ih h hf e1 e2 e3 e4 e5 e6 hcn hc hd
 try clear hq
 try clear hn
 try clear qn'
 go_enter Tryz.func202, Tryz.ntmps202
 go_wp2_with fail
 refine (snow F0.out.st tc HNOW.out).mono ?_
 rintro e w1 ⟨rfl, b1⟩
 have F1 := Lib.hid (F0.out.call b1)
 have F2 := Lib.hid (F1.out.alloc (.cells #[.int .i64 ((kd : Nat) : Int), .string tx, .int .u64 ((nm : Nat) : Int), .int .i64 ((ps : Nat) : Int)] 155))
 clear b1
 obtain ⟨⟨r0, r1, r2, r3, r4, r5, r6⟩, ⟨z0, z1, z2, z3, z4, z5, z6⟩, ⟨y0, y1, y2, y3, y4, y5, y6⟩, ⟨x0, x1, x2, x3, x4, x5, x6⟩, hlt0, hlt1⟩ := F1.out.cells
 go_wp2_with fail
 have HCA := calls_any F2.out.st tc
 rw [HNOW.out, HCL.out] at HCA
 refine HCA.mono ?_
 clear HCA
 rintro e w3 ⟨rfl, b3⟩
 clear r0 r1 r2 r3 r4 r5 r6 z0 z1 z2 z3 z4 z5 z6 y0 y1 y2 y3 y4 y5 y6 x0 x1 x2 x3 x4 x5 x6 hlt0 hlt1
 have F3 := Lib.hid (F2.out.call b3)
 clear b3 F1 F2
 obtain ⟨t0, t1, t2, t3, tg0, tg1⟩ := F3.out.tok
 obtain ⟨⟨r0, r1, r2, r3, r4, r5, r6⟩, ⟨z0, z1, z2, z3, z4, z5, z6⟩, ⟨y0, y1, y2, y3, y4, y5, y6⟩, ⟨x0, x1, x2, x3, x4, x5, x6⟩, hlt0, hlt1⟩ := F3.out.cells
 go_wp2_with fail
 refine (sis F3.out.st tc _ HQ.out).mono ?_
 rintro e w4 ⟨rfl, b4⟩
 clear r0 r1 r2 r3 r4 r5 r6 z0 z1 z2 z3 z4 z5 z6 y0 y1 y2 y3 y4 y5 y6 x0 x1 x2 x3 x4 x5 x6 hlt0 hlt1
 clear t0 t1 t2 t3 tg0 tg1
 have F4 := Lib.hid (F3.out.call b4)
 clear b4 F3
 obtain ⟨t0, t1, t2, t3, tg0, tg1⟩ := F4.out.tok
 obtain ⟨⟨r0, r1, r2, r3, r4, r5, r6⟩, ⟨z0, z1, z2, z3, z4, z5, z6⟩, ⟨y0, y1, y2, y3, y4, y5, y6⟩, ⟨x0, x1, x2, x3, x4, x5, x6⟩, hlt0, hlt1⟩ := F4.out.cells
 go_wp2_with fail
 refine (sfail F4.out.st tc 5 (by decide)).mono ?_
 rintro e w5 ⟨v, rfl, ⟨i5, EA5, ne5, ec5, d5, c5, p5, rfl, h5⟩, b5⟩
 clear r0 r1 r2 r3 r4 r5 r6 z0 z1 z2 z3 z4 z5 z6 y0 y1 y2 y3 y4 y5 y6 x0 x1 x2 x3 x4 x5 x6 hlt0 hlt1
 have F5 := Lib.hid (F4.out.call b5)
 obtain ⟨⟨r0, r1, r2, r3, r4, r5, r6⟩, ⟨z0, z1, z2, z3, z4, z5, z6⟩, ⟨y0, y1, y2, y3, y4, y5, y6⟩, ⟨x0, x1, x2, x3, x4, x5, x6⟩, hlt0, hlt1⟩ := F5.out.cells
 go_wp2
 obtain ⟨wS, hwS⟩ : ∃ wS, wS = (((((((w5).setCell ⟨w.heap.size + 1, 0, none⟩ (.slice TA n tc)).setCell ⟨w.heap.size + 1, 1, none⟩ (.int .i64 ((i5 : Nat) : Int))).setCell ⟨w.heap.size + 1, 2, none⟩ (.slice SA ns sc)).setCell ⟨w.heap.size + 1, 3, none⟩ (.slice EA5 ne5 ec5)).setCell ⟨w.heap.size + 1, 4, none⟩ (.int .i64 ((d5 : Nat) : Int))).setCell ⟨w.heap.size + 1, 5, none⟩ (.int .i64 ((c5 : Nat) : Int))).setCell ⟨w.heap.size + 1, 6, none⟩ (.int .i64 ((p5 : Nat) : Int)) := ⟨_, rfl⟩
 rw [← hwS]
 obtain ⟨f1, f2, f3⟩ := F4.out.fin b5 h5 hwS
 obtain ⟨g0, g1, g2, g3, g4, g5, g6⟩ := cells7 f1
 clear hwS f1
 exact bodyPost_ret (v := .tuple #[.agg #[.slice TA n tc, .int .i64 ((i5 : Nat) : Int), .slice SA ns sc, .slice EA5 ne5 ec5, .int .i64 ((d5 : Nat) : Int), .int .i64 ((c5 : Nat) : Int), .int .i64 ((p5 : Nat) : Int)], .int .i64 ((0 : Nat) : Int)]) (by simp [results, Tryz.results202, go_sem, g0, g1, g2, g3, g4, g5, g6]) rfl ⟨_, by rw [HR.out], by rw [HR.out]; exact f2.ro, f3⟩
set_option maxRecDepth 100000 in
set_option maxHeartbeats 4000000 in
theorem ratom_deepC (f : Nat) (ih : ∀ f', f' ≤ f → AllR TA tc L n SA ns sc f') (h : ST X TA L s w n SA ns sc i EA ne ec d c p) (hf : 12 * (L.length - s.i) + 1 ≤ f + 1) (herr : s.err = none) (h2 : (nowP L s).kind ≠ 2) (h1 : (nowP L s).kind ≠ 1) (hn : (callP (nowP L s)).2 ≠ 0) (hd : s.deep = 32) :
  Calls Tryz.prog 202 #[.agg #[.slice TA n tc, .int .i64 ((i : Nat) : Int), .slice SA ns sc, .slice EA ne ec, .int .i64 ((d : Nat) : Int), .int .i64 ((c : Nat) : Int), .int .i64 ((p : Nat) : Int)]] w (RLv X TA tc L n SA ns sc w (atomP L (f + 1) s)) := by
 have F0 := Lib.hid (FR.made (tc := tc) h #[(.slice none 0 0), (.int .i64 0), (.slice none 0 0), (.slice none 0 0), (.int .i64 0), (.int .i64 0), (.int .i64 0)])
 obtain ⟨kd, tx, nm, ps, hnow⟩ : ∃ kd tx nm ps, nowP L s = ⟨kd, tx, nm, ps⟩ := ⟨_, _, _, _, rfl⟩
 obtain ⟨e1, e2, e3, e4, e5, e6⟩ := h.el
 have HNOW := Lib.hid hnow
 have IH := Lib.hid ih
 have HF := Lib.hid hf
 have hc0 : c = 0 := by rw [h.ecc]; unfold eC; rw [herr]
 have q0 : ((c : Int) == 0) = true := by rw [beq_iff_eq]; omega
 have q0' : ((c : Int) != 0) = false := by rw [bne_eq_false_iff_eq]; omega
 have HERR := Lib.hid herr
 obtain ⟨ck, cn, hc⟩ : ∃ ck cn, callP ⟨kd, tx, nm, ps⟩ = (ck, cn) := ⟨_, _, rfl⟩
 have hcn : cn ≤ 3 := by
  rcases call_cases ⟨kd, tx, nm, ps⟩ with h | h | h | h | h | h <;> rw [hc] at h <;> injection h <;> omega
 have HCL := Lib.hid hc
 rw [hnow] at h2 h1
 have q2 : ((kd : Int) == 2) = false := by rw [beq_eq_false_iff_ne]; dsimp only at h2; omega
 have Q2 : Hid ((kd == 2) = false) := by show (kd == 2) = false; rw [beq_eq_false_iff_ne]; exact h2
 have q1 : ((kd : Int) == 1) = false := by rw [beq_eq_false_iff_ne]; dsimp only at h1; omega
 have Q1 : Hid ((kd == 1) = false) := by show (kd == 1) = false; rw [beq_eq_false_iff_ne]; exact h1
 have HAT := Lib.hid (show atomP L (f + 1) s = (if (!isP L s tOpen) && (cn == 0) then (failP L s 130, 0) else
   if (sinkP L s).2 then
    if cn == 0 then (riseP (wantP L (exprP L f (advP (sinkP L s).1)).1 tShut), (exprP L f (advP (sinkP L s).1)).2)
    else putP (riseP (wantP L (argsP L f cn (wantP L (advP (sinkP L s).1) tOpen) []).1 tShut)) ⟨ck, noB, 0, (argsP L f cn (wantP L (advP (sinkP L s).1) tOpen) []).2, ps⟩
   else ((sinkP L s).1, 0)) from by rw [atomP]; simp only [HERR.out, HNOW.out, Q1.out, Q2.out, HCL.out]; rfl)
 clear herr h2 h1 hc0
 rw [hnow, hc] at hn
 have hn1 : cn ≠ 0 := hn
 have qn : ((cn : Int) == 0) = false := by rw [beq_eq_false_iff_ne]; omega
 have qn' : (cn == 0) = false := by rw [beq_eq_false_iff_ne]; exact hn1
 clear hn1
 have HR := Lib.hid (show atomP L (f + 1) s = (failP L s 5, 0) from by rw [HAT.out]; simp only [sinkP, hd]; first | (rw [hq]; rfl) | (rw [qn']; simp))
 have qd : decide ((32 : Int) ≤ (d : Int)) = true := by rw [decide_eq_true_eq]; omega
 have HQ := Lib.hid (True.intro)
 clear hnow ih h hf e1 e2 e3 e4 e5 e6 hcn hc hd
 try clear hq
 try clear hn
 try clear qn'
 go_enter Tryz.func202, Tryz.ntmps202
 go_wp2_with fail
 refine (snow F0.out.st tc HNOW.out).mono ?_
 rintro e w1 ⟨rfl, b1⟩
 have F1 := Lib.hid (F0.out.call b1)
 have F2 := Lib.hid (F1.out.alloc (.cells #[.int .i64 ((kd : Nat) : Int), .string tx, .int .u64 ((nm : Nat) : Int), .int .i64 ((ps : Nat) : Int)] 155))
 clear b1
 obtain ⟨⟨r0, r1, r2, r3, r4, r5, r6⟩, ⟨z0, z1, z2, z3, z4, z5, z6⟩, ⟨y0, y1, y2, y3, y4, y5, y6⟩, ⟨x0, x1, x2, x3, x4, x5, x6⟩, hlt0, hlt1⟩ := F1.out.cells
 go_wp2_with fail
 have HCA := calls_any F2.out.st tc
 rw [HNOW.out, HCL.out] at HCA
 refine HCA.mono ?_
 clear HCA
 rintro e w3 ⟨rfl, b3⟩
 clear r0 r1 r2 r3 r4 r5 r6 z0 z1 z2 z3 z4 z5 z6 y0 y1 y2 y3 y4 y5 y6 x0 x1 x2 x3 x4 x5 x6 hlt0 hlt1
 have F3 := Lib.hid (F2.out.call b3)
 clear b3 F1 F2
 obtain ⟨t0, t1, t2, t3, tg0, tg1⟩ := F3.out.tok
 obtain ⟨⟨r0, r1, r2, r3, r4, r5, r6⟩, ⟨z0, z1, z2, z3, z4, z5, z6⟩, ⟨y0, y1, y2, y3, y4, y5, y6⟩, ⟨x0, x1, x2, x3, x4, x5, x6⟩, hlt0, hlt1⟩ := F3.out.cells
 go_wp2_with fail
 refine (sfail F3.out.st tc 5 (by decide)).mono ?_
 rintro e w5 ⟨v, rfl, ⟨i5, EA5, ne5, ec5, d5, c5, p5, rfl, h5⟩, b5⟩
 clear r0 r1 r2 r3 r4 r5 r6 z0 z1 z2 z3 z4 z5 z6 y0 y1 y2 y3 y4 y5 y6 x0 x1 x2 x3 x4 x5 x6 hlt0 hlt1
 have F5 := Lib.hid (F3.out.call b5)
 obtain ⟨⟨r0, r1, r2, r3, r4, r5, r6⟩, ⟨z0, z1, z2, z3, z4, z5, z6⟩, ⟨y0, y1, y2, y3, y4, y5, y6⟩, ⟨x0, x1, x2, x3, x4, x5, x6⟩, hlt0, hlt1⟩ := F5.out.cells
 go_wp2
 obtain ⟨wS, hwS⟩ : ∃ wS, wS = (((((((w5).setCell ⟨w.heap.size + 1, 0, none⟩ (.slice TA n tc)).setCell ⟨w.heap.size + 1, 1, none⟩ (.int .i64 ((i5 : Nat) : Int))).setCell ⟨w.heap.size + 1, 2, none⟩ (.slice SA ns sc)).setCell ⟨w.heap.size + 1, 3, none⟩ (.slice EA5 ne5 ec5)).setCell ⟨w.heap.size + 1, 4, none⟩ (.int .i64 ((d5 : Nat) : Int))).setCell ⟨w.heap.size + 1, 5, none⟩ (.int .i64 ((c5 : Nat) : Int))).setCell ⟨w.heap.size + 1, 6, none⟩ (.int .i64 ((p5 : Nat) : Int)) := ⟨_, rfl⟩
 rw [← hwS]
 obtain ⟨f1, f2, f3⟩ := F3.out.fin b5 h5 hwS
 obtain ⟨g0, g1, g2, g3, g4, g5, g6⟩ := cells7 f1
 clear hwS f1
 exact bodyPost_ret (v := .tuple #[.agg #[.slice TA n tc, .int .i64 ((i5 : Nat) : Int), .slice SA ns sc, .slice EA5 ne5 ec5, .int .i64 ((d5 : Nat) : Int), .int .i64 ((c5 : Nat) : Int), .int .i64 ((p5 : Nat) : Int)], .int .i64 ((0 : Nat) : Int)]) (by simp [results, Tryz.results202, go_sem, g0, g1, g2, g3, g4, g5, g6]) rfl ⟨_, by rw [HR.out], by rw [HR.out]; exact f2.ro, f3⟩
end
end Go.Proofs.YtghlnncfigkkaaaGreatDoor
namespace Go.Proofs.YtghlnncfigkkaaaGreatDoor
set_option linter.unusedVariables false
set_option linter.unusedSimpArgs false
open Go.RowKit
attribute [local go_sem ↓] tok_field3 tok_field0
section
variable {X Y : Nat → Prop} {TA SA : Option Addr} {tc n ns sc : Nat} {L : List Tok} {s s' : PS} {w0 w w1 wS : World} {i ne ec d c p : Nat} {EA : Option Addr} {b : Array Value} {Q : List (Nat × Obj)}
set_option maxRecDepth 100000 in
set_option maxHeartbeats 4000000 in
theorem ratom_call (f : Nat) (ih : ∀ f', f' ≤ f → AllR TA tc L n SA ns sc f') (h : ST X TA L s w n SA ns sc i EA ne ec d c p) (hf : 12 * (L.length - s.i) + 1 ≤ f + 1) (herr : s.err = none) (h2 : (nowP L s).kind ≠ 2) (h1 : (nowP L s).kind ≠ 1) (hn : (callP (nowP L s)).2 ≠ 0) (hd : s.deep ≠ 32) :
  Calls Tryz.prog 202 #[.agg #[.slice TA n tc, .int .i64 ((i : Nat) : Int), .slice SA ns sc, .slice EA ne ec, .int .i64 ((d : Nat) : Int), .int .i64 ((c : Nat) : Int), .int .i64 ((p : Nat) : Int)]] w (RLv X TA tc L n SA ns sc w (atomP L (f + 1) s)) := by
 have F0 := Lib.hid (FR.made (tc := tc) h #[(.slice none 0 0), (.int .i64 0), (.slice none 0 0), (.slice none 0 0), (.int .i64 0), (.int .i64 0), (.int .i64 0)])
 obtain ⟨kd, tx, nm, ps, hnow⟩ : ∃ kd tx nm ps, nowP L s = ⟨kd, tx, nm, ps⟩ := ⟨_, _, _, _, rfl⟩
 obtain ⟨e1, e2, e3, e4, e5, e6⟩ := h.el
 have HNOW := Lib.hid hnow
 have IH := Lib.hid ih
 have HF := Lib.hid hf
 have hc0 : c = 0 := by rw [h.ecc]; unfold eC; rw [herr]
 have q0 : ((c : Int) == 0) = true := by rw [beq_iff_eq]; omega
 have q0' : ((c : Int) != 0) = false := by rw [bne_eq_false_iff_eq]; omega
 have HERR := Lib.hid herr
 obtain ⟨ck, cn, hc⟩ : ∃ ck cn, callP ⟨kd, tx, nm, ps⟩ = (ck, cn) := ⟨_, _, rfl⟩
 have hcn : cn ≤ 3 := by
  rcases call_cases ⟨kd, tx, nm, ps⟩ with h | h | h | h | h | h <;> rw [hc] at h <;> injection h <;> omega
 have HCL := Lib.hid hc
 rw [hnow] at h2 h1
 have q2 : ((kd : Int) == 2) = false := by rw [beq_eq_false_iff_ne]; dsimp only at h2; omega
 have Q2 : Hid ((kd == 2) = false) := by show (kd == 2) = false; rw [beq_eq_false_iff_ne]; exact h2
 have q1 : ((kd : Int) == 1) = false := by rw [beq_eq_false_iff_ne]; dsimp only at h1; omega
 have Q1 : Hid ((kd == 1) = false) := by show (kd == 1) = false; rw [beq_eq_false_iff_ne]; exact h1
 have HAT := Lib.hid (show atomP L (f + 1) s = (if (!isP L s tOpen) && (cn == 0) then (failP L s 130, 0) else
   if (sinkP L s).2 then
    if cn == 0 then (riseP (wantP L (exprP L f (advP (sinkP L s).1)).1 tShut), (exprP L f (advP (sinkP L s).1)).2)
    else putP (riseP (wantP L (argsP L f cn (wantP L (advP (sinkP L s).1) tOpen) []).1 tShut)) ⟨ck, noB, 0, (argsP L f cn (wantP L (advP (sinkP L s).1) tOpen) []).2, ps⟩
   else ((sinkP L s).1, 0)) from by rw [atomP]; simp only [HERR.out, HNOW.out, Q1.out, Q2.out, HCL.out]; rfl)
 clear herr h2 h1 hc0
 rw [hnow, hc] at hn
 have hn1 : cn ≠ 0 := hn
 have qn : ((cn : Int) == 0) = false := by rw [beq_eq_false_iff_ne]; omega
 have qn' : (cn == 0) = false := by rw [beq_eq_false_iff_ne]; exact hn1
 clear hn1
 have hsk : sinkP L s = ({ s with deep := s.deep + 1 }, true) := by unfold sinkP; exact if_neg hd
 have qd : decide ((32 : Int) ≤ (d : Int)) = false := by rw [decide_eq_false_iff_not]; omega
 have HDD := Lib.hid (show s.deep < 32 from by omega)
 have HIA := Lib.hid (show i ≤ 1000 ∧ d < 32 from by omega)
 have HXX := Lib.hid h.rr.xx
 have hcn1 : 1 ≤ cn := by
  rw [beq_eq_false_iff_ne] at qn'
  omega
 have qg : decide ((0 : Int) < (cn : Int)) = true := by rw [decide_eq_true_eq]; omega
 have qg2 : decide (0 < cn) = true := by rw [decide_eq_true_eq]; omega
 have qm : max ((cn : Nat) : Int) 1 = ((cn : Nat) : Int) := by omega
 have HCN := Lib.hid (show 1 ≤ cn ∧ cn ≤ 3 from ⟨hcn1, hcn⟩)
 have hlt : s.i < L.length := now_lt (by
  rw [HNOW.out]
  intro h0
  dsimp only at h0
  subst h0
  have h1 : callP ⟨0, tx, nm, ps⟩ = (0, 0) := rfl
  rw [hc] at h1
  injection h1 with _ h1
  omega)
 obtain ⟨sk, hso0⟩ : ∃ sk, sk = advP { s with deep := s.deep + 1 } := ⟨_, rfl⟩
 have hski : sk.i = s.i + 1 := by rw [hso0]; rfl
 have hskd : sk.deep = s.deep + 1 := by rw [hso0]; rfl
 have hske : sk.es = s.es := by rw [hso0]; rfl
 obtain ⟨so, hso⟩ : ∃ so, wantP L sk tOpen = so := ⟨_, rfl⟩
 have go1 := G.want (L := L) sk tOpen
 rw [hso] at go1
 obtain ⟨R, hRR⟩ : ∃ R, R = argsP L f cn so [] := ⟨_, rfl⟩
 have g2 := (allG L f).args cn so []
 rw [← hRR] at g2
 have gw := G.want (L := L) R.1 tShut
 obtain ⟨sw, hsw⟩ : ∃ sw, wantP L R.1 tShut = sw := ⟨_, rfl⟩
 rw [hsw] at gw
 have hso1 : s.i + 1 ≤ so.i := by have := go1.hi; omega
 have hsd0 : sw.deep = s.deep + 1 := by rw [gw.hd, g2.hd, go1.hd]; exact hskd
 have HSD := Lib.hid (show 1 ≤ sw.deep ∧ sw.deep ≤ 32 from by omega)
 have hbig : (riseP sw).es.length + 1 ≤ (riseP sw).i := by
  show sw.es.length + 1 ≤ sw.i
  have a1 := go1.he
  have a2 := g2.he
  have a3 := gw.he
  rw [hske] at a1
  omega
 obtain ⟨sd, vd, hC⟩ : ∃ sd vd, putP (riseP sw) ⟨ck, noB, 0, R.2, ps⟩ = (sd, vd) := ⟨_, _, rfl⟩
 have HR := Lib.hid (show atomP L (f + 1) s = (sd, vd) from by rw [HAT.out]; rw [qn']; simp only [hsk, ← hso0, hso, ← hRR, hsw, hC, Bool.and_false, if_true]; rfl)
 have HLT := Lib.hid hlt
 have HSO := Lib.hid hso0
 have HSO2 := Lib.hid hso
 have HSW := Lib.hid hsw
 have HBIG := Lib.hid hbig
 have HC2 := Lib.hid hC
 have HK0 := Lib.hid (show (KCal L f cn R) 0 so [] from ⟨f, Nat.le_refl _, by rw [Nat.sub_zero]; exact hRR, by have := HF.out; omega⟩)
 clear hn hlt hso0 hso hski hskd hske go1 hRR g2 gw hsw hso1 hsd0 hbig hC hsk hd ih h hnow hc hf e1 e2 e3 e4 e5 e6 hcn hcn1 qn'
 go_enter Tryz.func202, Tryz.ntmps202
 go_wp2_with fail
 refine (snow F0.out.st tc HNOW.out).mono ?_
 rintro e w1 ⟨rfl, b1⟩
 have F1 := Lib.hid (F0.out.call b1)
 have F2 := Lib.hid (F1.out.alloc (.cells #[.int .i64 ((kd : Nat) : Int), .string tx, .int .u64 ((nm : Nat) : Int), .int .i64 ((ps : Nat) : Int)] 155))
 clear b1
 obtain ⟨⟨r0, r1, r2, r3, r4, r5, r6⟩, ⟨z0, z1, z2, z3, z4, z5, z6⟩, ⟨y0, y1, y2, y3, y4, y5, y6⟩, ⟨x0, x1, x2, x3, x4, x5, x6⟩, hlt0, hlt1⟩ := F1.out.cells
 go_wp2_with fail
 have HCA := calls_any F2.out.st tc
 rw [HNOW.out, HCL.out] at HCA
 refine HCA.mono ?_
 clear HCA
 rintro e w3 ⟨rfl, b3⟩
 clear r0 r1 r2 r3 r4 r5 r6 z0 z1 z2 z3 z4 z5 z6 y0 y1 y2 y3 y4 y5 y6 x0 x1 x2 x3 x4 x5 x6 hlt0 hlt1
 have F3 := Lib.hid (F2.out.call b3)
 clear b3 F1 F2
 obtain ⟨t0, t1, t2, t3, tg0, tg1⟩ := F3.out.tok
 obtain ⟨⟨r0, r1, r2, r3, r4, r5, r6⟩, ⟨z0, z1, z2, z3, z4, z5, z6⟩, ⟨y0, y1, y2, y3, y4, y5, y6⟩, ⟨x0, x1, x2, x3, x4, x5, x6⟩, hlt0, hlt1⟩ := F3.out.cells
 obtain ⟨hi1, hd1⟩ := HIA.out
 go_wp2_with fail
 obtain ⟨i5, hi5⟩ : ∃ i5, i5 = i + 1 := ⟨_, rfl⟩
 obtain ⟨d5, hd5⟩ : ∃ d5, d5 = d + 1 := ⟨_, rfl⟩
 obtain ⟨w5, hw5⟩ : ∃ w5, w5 = (w3.setCell ⟨w.heap.size, 4, none⟩ (.int .i64 ((d : Int) + 1))).setCell ⟨w.heap.size, 1, none⟩ (.int .i64 ((i : Int) + 1)) := ⟨_, rfl⟩
 have F5 := Lib.hid (show FR X TA L n SA ns sc tc w w5 sk i5 EA ne ec d5 c p #[(.slice none 0 0), (.int .i64 0), (.slice none 0 0), (.slice none 0 0), (.int .i64 0), (.int .i64 0), (.int .i64 0)] [(w1.heap.size, .cells #[.int .i64 ((kd : Nat) : Int), .string tx, .int .u64 ((nm : Nat) : Int), .int .i64 ((ps : Nat) : Int)] 155)] from by rw [HSO.out, hw5]; exact (F3.out.deepen HDD.out hd5).adv HLT.out hi5)
 have h5i : ((i : Int) + 1) = ((i5 : Nat) : Int) := by rw [hi5]; rfl
 have h5d : ((d : Int) + 1) = ((d5 : Nat) : Int) := by rw [hd5]; rfl
 try rw [← hw5]
 try simp only [h5i, h5d]
 clear r0 r1 r2 r3 r4 r5 r6 z0 z1 z2 z3 z4 z5 z6 y0 y1 y2 y3 y4 y5 y6 x0 x1 x2 x3 x4 x5 x6 hlt0 hlt1
 clear hw5 h5i hi5 h5d hd5 hi1 hd1 t0 t1 t2 t3 tg0 tg1 F3
 refine (swant F5.out.st tc tOpen).mono ?_
 rintro e w6 ⟨v, rfl, h6, b6⟩
 rw [HSO2.out] at h6
 obtain ⟨i6, EA6, ne6, ec6, d6, c6, p6, rfl, h6⟩ := h6
 have F6 := Lib.hid (F5.out.call b6)
 obtain ⟨⟨r0, r1, r2, r3, r4, r5, r6⟩, ⟨z0, z1, z2, z3, z4, z5, z6⟩, ⟨y0, y1, y2, y3, y4, y5, y6⟩, ⟨x0, x1, x2, x3, x4, x5, x6⟩, hlt0, hlt1⟩ := F6.out.cells
 go_wp2
 obtain ⟨w7, hwS⟩ : ∃ wS, wS = (((((((w6).setCell ⟨w.heap.size, 0, none⟩ (.slice TA n tc)).setCell ⟨w.heap.size, 1, none⟩ (.int .i64 ((i6 : Nat) : Int))).setCell ⟨w.heap.size, 2, none⟩ (.slice SA ns sc)).setCell ⟨w.heap.size, 3, none⟩ (.slice EA6 ne6 ec6)).setCell ⟨w.heap.size, 4, none⟩ (.int .i64 ((d6 : Nat) : Int))).setCell ⟨w.heap.size, 5, none⟩ (.int .i64 ((c6 : Nat) : Int))).setCell ⟨w.heap.size, 6, none⟩ (.int .i64 ((p6 : Nat) : Int)) := ⟨_, rfl⟩
 rw [← hwS]
 have F7 := Lib.hid (F5.out.take b6 h6 hwS)
 have hsz : w6.heap.size = w7.heap.size := by rw [hwS]; simp [World.setCell]
 try simp only [hsz]
 clear hsz hwS b6 h6
 clear r0 r1 r2 r3 r4 r5 r6 z0 z1 z2 z3 z4 z5 z6 y0 y1 y2 y3 y4 y5 y6 x0 x1 x2 x3 x4 x5 x6 hlt0 hlt1
 clear F6 F5
 have HLB := Lib.hid (show w.heap.size + 1 < w7.heap.size ∧ w1.heap.size < w7.heap.size from ⟨F7.out.bx.lt, by obtain ⟨t0, t1, t2, t3, tg0, tg1⟩ := F7.out.tok; exact tg1⟩)
 obtain ⟨B, hBB⟩ : ∃ B, B = w7.heap.size := ⟨_, rfl⟩
 rw [← hBB] at HLB
 have hBle := Lib.hid (show B ≤ w7.heap.size from Nat.le_of_eq hBB)
 clear hBB
 go_loopw [7, 8] (fun av iv wr => RA X TA tc L n SA ns sc w B (cn) [(w1.heap.size, .cells #[.int .i64 ((kd : Nat) : Int), .string tx, .int .u64 ((nm : Nat) : Int), .int .i64 ((ps : Nat) : Int)] 155)] (KCal L f cn R) av iv wr) (fun _ iv _ => (cn) - (intOf iv).toNat)
 case atStart => exact ⟨0, so, [], none, 0, _, _, _, _, _, _, _, Nat.zero_le _, rfl, rfl, rfl, HK0.out, F7.out.xnil, Own.nil _ _ _, hBle.out⟩
 case round =>
  obtain ⟨j, s', l, A, cap, ia, EAa, nea, eca, da, ca, pa, hj, rfl, rfl, hl, hk, fa, ho, hbw⟩ := hrel
  have HBW := Lib.hid hbw
  have FA := Lib.hid fa
  have HO := Lib.hid ho
  have HLL := Lib.hid hl
  have HK := Lib.hid hk
  clear fa ho hl hk hbw F7
  by_cases hlt2 : j < cn
  ·obtain ⟨f', hf', hr, hne⟩ := HK.out
   obtain ⟨f', rfl⟩ : ∃ g, f' = g + 1 := ⟨f' - 1, by omega⟩
   obtain ⟨sq, hsq⟩ : ∃ sq, (if l.length = 0 then s' else wantP L s' tComma) = sq := ⟨_, rfl⟩
   have hsi : s'.i ≤ sq.i := by
    rw [← hsq]
    split
    ·exact Nat.le_refl _
    ·exact (G.want (L := L) s' tComma).hi
   have HB := Lib.hid (fun (Y : Nat → Prop) w i EA ne ec d c p (h' : ST Y TA L sq w n SA ns sc i EA ne ec d c p) => (IH.out f' (by omega)).j1 h' (by omega))
   have gx := (allG L f').expr sq
   obtain ⟨sb, vb, hB⟩ : ∃ sb vb, exprP L f' sq = (sb, vb) := ⟨_, _, rfl⟩
   rw [hB] at HB gx
   have hxi : sq.i ≤ sb.i := gx.hi
   have HX := Lib.hid (show (KCal L f cn R) (j + 1) sb (l ++ [vb]) from ⟨f', by omega, by
    rw [hr, show cn - j = (cn - (j + 1)) + 1 from by omega, argsP]
    simp only [hsq, hB], by omega⟩)
   have HSQ := Lib.hid hsq
   have HCNB := HCN.out
   clear hsq gx hB hsi hxi hr hne HK
   by_cases hj0 : j = 0
   ·have hz : sq = s' := by have := HSQ.out; rw [if_pos (by have := HLL.out; omega)] at this; exact this.symm
    rw [hz] at HB
    have qj : decide (0 < j) = false := by simp; omega
    have qj2 : decide ((0 : Int) < (j : Int)) = false := by simp; omega
    clear hz hj0
    have HSZ0 := Lib.hid HBW.out
    obtain ⟨⟨r0, r1, r2, r3, r4, r5, r6⟩, ⟨z0, z1, z2, z3, z4, z5, z6⟩, ⟨y0, y1, y2, y3, y4, y5, y6⟩, ⟨x0, x1, x2, x3, x4, x5, x6⟩, hlt0, hlt1⟩ := FA.out.cells
    go_wp2_with fail
    clear r0 r1 r2 r3 r4 r5 r6 z0 z1 z2 z3 z4 z5 z6 y0 y1 y2 y3 y4 y5 y6 x0 x1 x2 x3 x4 x5 x6 hlt0 hlt1
    refine (HB.out _ _ _ _ _ _ _ _ _ FA.out.st).mono ?_
    rintro e w8 ⟨v, rfl, ⟨i8, EA8, ne8, ec8, d8, c8, p8, rfl, h8⟩, b8⟩
    have F8 := Lib.hid (FA.out.call b8)
    have HO8 := Lib.hid (HO.out.next b8)
    obtain ⟨⟨r0, r1, r2, r3, r4, r5, r6⟩, ⟨z0, z1, z2, z3, z4, z5, z6⟩, ⟨y0, y1, y2, y3, y4, y5, y6⟩, ⟨x0, x1, x2, x3, x4, x5, x6⟩, hlt0, hlt1⟩ := F8.out.cells
    go_wp2_with (at_builtin; obtain ⟨w9, hwS⟩ : ∃ wS, wS = (((((((w8).setCell ⟨w.heap.size, 0, none⟩ (.slice TA n tc)).setCell ⟨w.heap.size, 1, none⟩ (.int .i64 ((i8 : Nat) : Int))).setCell ⟨w.heap.size, 2, none⟩ (.slice SA ns sc)).setCell ⟨w.heap.size, 3, none⟩ (.slice EA8 ne8 ec8)).setCell ⟨w.heap.size, 4, none⟩ (.int .i64 ((d8 : Nat) : Int))).setCell ⟨w.heap.size, 5, none⟩ (.int .i64 ((c8 : Nat) : Int))).setCell ⟨w.heap.size, 6, none⟩ (.int .i64 ((p8 : Nat) : Int)) := ⟨_, rfl⟩; rw [← hwS]; have F9 := Lib.hid (FA.out.take b8 h8 hwS); have HO9 := Lib.hid (FA.out.takeO b8 HO8.out hwS); have hsz : w9.heap.size = w8.heap.size := (by rw [hwS]; simp [World.setCell]); have hsz2 : B ≤ w9.heap.size := (by rw [hsz]; exact Nat.le_trans HSZ0.out b8.size); clear hwS b8 h8; clear r0 r1 r2 r3 r4 r5 r6 z0 z1 z2 z3 z4 z5 z6 y0 y1 y2 y3 y4 y5 y6 x0 x1 x2 x3 x4 x5 x6 hlt0 hlt1; have F10 := Lib.hid (F9.out.al (.cells #[I64 vb] 3)); have HO10 := Lib.hid (HO9.out.alloc (.cells #[I64 vb] 3)); refine appI rfl (.tmp 94) (.tmp 96) rfl B A cap l j HLL.out rfl HO10.out w9.heap.size (by rw [hsz]; rfl) vb (heap_alloc_new _ _) (by omega) (by simp; omega) ?_; intro A' cap' w11 ho11 hg11 hA11; have F11 := Lib.hid (FR.grown F10.out HO10.out HLB.out.1 (fun q hq => by rcases List.mem_cons.1 hq with rfl | hq; exact HLB.out.2; cases hq) hg11 ho11 hA11); have HO11 := Lib.hid ho11; have HB11 := Lib.hid (show B ≤ w11.heap.size from Nat.le_trans (by simp; omega) hg11.size); clear ho11 hg11 hA11)
    refine ⟨⟨j + 1, sb, l ++ [vb], A', cap', _, _, _, _, _, _, _, by omega, by go_num, rfl, by rw [List.length_append, HLL.out]; rfl, HX.out, F11.out, HO11.out, HB11.out⟩, by first | (simp [intOf]; done) | (simp [intOf]; omega)⟩
   ·have hz : sq = wantP L s' tComma := by have := HSQ.out; rw [if_neg (by have := HLL.out; omega)] at this; exact this.symm
    have qj : decide (0 < j) = true := by simp; omega
    have qj2 : decide ((0 : Int) < (j : Int)) = true := by simp; omega
    clear hj0
    have HZ := Lib.hid hz
    clear hz
    obtain ⟨⟨r0, r1, r2, r3, r4, r5, r6⟩, ⟨z0, z1, z2, z3, z4, z5, z6⟩, ⟨y0, y1, y2, y3, y4, y5, y6⟩, ⟨x0, x1, x2, x3, x4, x5, x6⟩, hlt0, hlt1⟩ := FA.out.cells
    go_wp2_with fail
    refine (swant FA.out.st tc tComma).mono ?_
    rintro e w6 ⟨v, rfl, h6, b6⟩
    rw [← HZ.out] at h6
    obtain ⟨i6, EA6, ne6, ec6, d6, c6, p6, rfl, h6⟩ := h6
    have F6 := Lib.hid (FA.out.call b6)
    clear r0 r1 r2 r3 r4 r5 r6 z0 z1 z2 z3 z4 z5 z6 y0 y1 y2 y3 y4 y5 y6 x0 x1 x2 x3 x4 x5 x6 hlt0 hlt1
    obtain ⟨⟨r0, r1, r2, r3, r4, r5, r6⟩, ⟨z0, z1, z2, z3, z4, z5, z6⟩, ⟨y0, y1, y2, y3, y4, y5, y6⟩, ⟨x0, x1, x2, x3, x4, x5, x6⟩, hlt0, hlt1⟩ := F6.out.cells
    go_wp2_with fail
    obtain ⟨wB, hwS⟩ : ∃ wS, wS = (((((((w6).setCell ⟨w.heap.size, 0, none⟩ (.slice TA n tc)).setCell ⟨w.heap.size, 1, none⟩ (.int .i64 ((i6 : Nat) : Int))).setCell ⟨w.heap.size, 2, none⟩ (.slice SA ns sc)).setCell ⟨w.heap.size, 3, none⟩ (.slice EA6 ne6 ec6)).setCell ⟨w.heap.size, 4, none⟩ (.int .i64 ((d6 : Nat) : Int))).setCell ⟨w.heap.size, 5, none⟩ (.int .i64 ((c6 : Nat) : Int))).setCell ⟨w.heap.size, 6, none⟩ (.int .i64 ((p6 : Nat) : Int)) := ⟨_, rfl⟩
    rw [← hwS]
    have FB := Lib.hid (FA.out.take b6 h6 hwS)
    have HOB := Lib.hid (FA.out.takeO b6 (HO.out.next b6) hwS)
    have hsz : wB.heap.size = w6.heap.size := by rw [hwS]; simp [World.setCell]
    have HSZ0 := Lib.hid (show B ≤ wB.heap.size from by rw [hsz]; exact Nat.le_trans HBW.out b6.size)
    try simp only [hsz]
    clear hwS b6 h6 hsz
    clear r0 r1 r2 r3 r4 r5 r6 z0 z1 z2 z3 z4 z5 z6 y0 y1 y2 y3 y4 y5 y6 x0 x1 x2 x3 x4 x5 x6 hlt0 hlt1
    clear F6
    refine (HB.out _ _ _ _ _ _ _ _ _ FB.out.st).mono ?_
    rintro e w8 ⟨v, rfl, ⟨i8, EA8, ne8, ec8, d8, c8, p8, rfl, h8⟩, b8⟩
    have F8 := Lib.hid (FB.out.call b8)
    have HO8 := Lib.hid (HOB.out.next b8)
    obtain ⟨⟨r0, r1, r2, r3, r4, r5, r6⟩, ⟨z0, z1, z2, z3, z4, z5, z6⟩, ⟨y0, y1, y2, y3, y4, y5, y6⟩, ⟨x0, x1, x2, x3, x4, x5, x6⟩, hlt0, hlt1⟩ := F8.out.cells
    go_wp2_with (at_builtin; obtain ⟨w9, hwS⟩ : ∃ wS, wS = (((((((w8).setCell ⟨w.heap.size, 0, none⟩ (.slice TA n tc)).setCell ⟨w.heap.size, 1, none⟩ (.int .i64 ((i8 : Nat) : Int))).setCell ⟨w.heap.size, 2, none⟩ (.slice SA ns sc)).setCell ⟨w.heap.size, 3, none⟩ (.slice EA8 ne8 ec8)).setCell ⟨w.heap.size, 4, none⟩ (.int .i64 ((d8 : Nat) : Int))).setCell ⟨w.heap.size, 5, none⟩ (.int .i64 ((c8 : Nat) : Int))).setCell ⟨w.heap.size, 6, none⟩ (.int .i64 ((p8 : Nat) : Int)) := ⟨_, rfl⟩; rw [← hwS]; have F9 := Lib.hid (FB.out.take b8 h8 hwS); have HO9 := Lib.hid (FB.out.takeO b8 HO8.out hwS); have hsz : w9.heap.size = w8.heap.size := (by rw [hwS]; simp [World.setCell]); have hsz2 : B ≤ w9.heap.size := (by rw [hsz]; exact Nat.le_trans HSZ0.out b8.size); clear hwS b8 h8; clear r0 r1 r2 r3 r4 r5 r6 z0 z1 z2 z3 z4 z5 z6 y0 y1 y2 y3 y4 y5 y6 x0 x1 x2 x3 x4 x5 x6 hlt0 hlt1; have F10 := Lib.hid (F9.out.al (.cells #[I64 vb] 3)); have HO10 := Lib.hid (HO9.out.alloc (.cells #[I64 vb] 3)); refine appI rfl (.tmp 94) (.tmp 96) rfl B A cap l j HLL.out rfl HO10.out w9.heap.size (by rw [hsz]; rfl) vb (heap_alloc_new _ _) (by omega) (by simp; omega) ?_; intro A' cap' w11 ho11 hg11 hA11; have F11 := Lib.hid (FR.grown F10.out HO10.out HLB.out.1 (fun q hq => by rcases List.mem_cons.1 hq with rfl | hq; exact HLB.out.2; cases hq) hg11 ho11 hA11); have HO11 := Lib.hid ho11; have HB11 := Lib.hid (show B ≤ w11.heap.size from Nat.le_trans (by simp; omega) hg11.size); clear ho11 hg11 hA11)
    refine ⟨⟨j + 1, sb, l ++ [vb], A', cap', _, _, _, _, _, _, _, by omega, by go_num, rfl, by rw [List.length_append, HLL.out]; rfl, HX.out, F11.out, HO11.out, HB11.out⟩, by first | (simp [intOf]; done) | (simp [intOf]; omega)⟩
  ·obtain rfl : cn = j := by omega
   have hR : R = (s', l) := by
    obtain ⟨f', hf', hr, hne⟩ := HK.out
    obtain ⟨f', rfl⟩ : ∃ g, f' = g + 1 := ⟨f' - 1, by omega⟩
    rw [hr, Nat.sub_self, argsP]
   have hcp := HC2.out
   rw [hR] at hcp
   have HCP := Lib.hid hcp
   clear hcp
   have HSWL := HSW.out
   rw [hR] at HSWL; clear hR
   have HSWL := Lib.hid HSWL
   obtain ⟨⟨r0, r1, r2, r3, r4, r5, r6⟩, ⟨z0, z1, z2, z3, z4, z5, z6⟩, ⟨y0, y1, y2, y3, y4, y5, y6⟩, ⟨x0, x1, x2, x3, x4, x5, x6⟩, hlt0, hlt1⟩ := FA.out.cells
   go_wp2_with fail
   refine (swant FA.out.st tc tShut).mono ?_
   rintro e w7 ⟨v, rfl, h7, b7⟩
   rw [HSWL.out] at h7
   obtain ⟨i7, EA7, ne7, ec7, d7, c7, p7, rfl, h7⟩ := h7
   have F7 := Lib.hid (FA.out.call b7)
   have HO7 := Lib.hid (HO.out.next b7)
   have hd7 : 1 ≤ d7 ∧ d7 ≤ 32 := by rw [h7.ed]; exact HSD.out
   obtain ⟨t0, t1, t2, t3, tg0, tg1⟩ := F7.out.tok
   clear r0 r1 r2 r3 r4 r5 r6 z0 z1 z2 z3 z4 z5 z6 y0 y1 y2 y3 y4 y5 y6 x0 x1 x2 x3 x4 x5 x6 hlt0 hlt1
   obtain ⟨⟨r0, r1, r2, r3, r4, r5, r6⟩, ⟨z0, z1, z2, z3, z4, z5, z6⟩, ⟨y0, y1, y2, y3, y4, y5, y6⟩, ⟨x0, x1, x2, x3, x4, x5, x6⟩, hlt0, hlt1⟩ := F7.out.cells
   go_wp2_with (obtain ⟨w8, hwS⟩ : ∃ wS, wS = (((((((w7).setCell ⟨w.heap.size, 0, none⟩ (.slice TA n tc)).setCell ⟨w.heap.size, 1, none⟩ (.int .i64 ((i7 : Nat) : Int))).setCell ⟨w.heap.size, 2, none⟩ (.slice SA ns sc)).setCell ⟨w.heap.size, 3, none⟩ (.slice EA7 ne7 ec7)).setCell ⟨w.heap.size, 4, none⟩ (.int .i64 ((d7 : Nat) : Int))).setCell ⟨w.heap.size, 5, none⟩ (.int .i64 ((c7 : Nat) : Int))).setCell ⟨w.heap.size, 6, none⟩ (.int .i64 ((p7 : Nat) : Int)) := ⟨_, rfl⟩; rw [← hwS]; have F8 := Lib.hid (FA.out.take b7 h7 hwS); have HO8 := Lib.hid (FA.out.takeO b7 HO7.out hwS); have hsz : w8.heap.size = w7.heap.size := (by rw [hwS]; simp [World.setCell]); obtain ⟨t0, t1, t2, t3, tg0, tg1⟩ := F8.out.tok; clear r0 r1 r2 r3 r4 r5 r6 z0 z1 z2 z3 z4 z5 z6 y0 y1 y2 y3 y4 y5 y6 x0 x1 x2 x3 x4 x5 x6 hlt0 hlt1; obtain ⟨⟨r0, r1, r2, r3, r4, r5, r6⟩, ⟨z0, z1, z2, z3, z4, z5, z6⟩, ⟨y0, y1, y2, y3, y4, y5, y6⟩, ⟨x0, x1, x2, x3, x4, x5, x6⟩, hlt0, hlt1⟩ := F8.out.cells; clear hwS b7 h7)
   obtain ⟨d9, hd9⟩ : ∃ d9, d9 = d7 - 1 := ⟨_, rfl⟩
   have h9d : ((d7 : Int) - 1) = ((d9 : Nat) : Int) := by omega
   obtain ⟨w9, hw9⟩ : ∃ w9, w9 = w8.setCell ⟨w.heap.size, 4, none⟩ (.int .i64 ((d7 : Int) - 1)) := ⟨_, rfl⟩
   try rw [← hw9]
   have F9 := Lib.hid (show FR (XA X A) TA L n SA ns sc tc w w9 (riseP sw) i7 EA7 ne7 ec7 d9 c7 p7 #[(.slice none 0 0), (.int .i64 0), (.slice none 0 0), (.slice none 0 0), (.int .i64 0), (.int .i64 0), (.int .i64 0)] [(w1.heap.size, .cells #[.int .i64 ((kd : Nat) : Int), .string tx, .int .u64 ((nm : Nat) : Int), .int .i64 ((ps : Nat) : Int)] 155)] from by rw [hw9]; exact F8.out.rise _ (by rw [h9d]) hd9)
   have HO9 := Lib.hid (show Own w9 B 3 A cap (l.map I64) from by rw [hw9]; exact F8.out.setO HO8.out _ _)
   try simp only [h9d]
   try simp only [hsz]
   try clear hwS b7 h7
   clear hw9 hsz h9d hd9 hd7 t0 t1 t2 t3 tg0 tg1
   clear r0 r1 r2 r3 r4 r5 r6 z0 z1 z2 z3 z4 z5 z6 y0 y1 y2 y3 y4 y5 y6 x0 x1 x2 x3 x4 x5 x6 hlt0 hlt1
   clear F7 F8 HO7 HO8
   refine (sput ⟨ck, noB, 0, l, ps⟩ A cn cap F9.out.st tc ⟨A, cap, by rw [HLL.out], HO9.out.more (Nat.zero_le _), fun k hk hx => by have h1 := (HO9.out.lt k hk).1; have h2 := HXX.out k hx; have h3 := HLB.out.1; omega⟩ HBIG.out).mono ?_
   rintro e w10 ⟨v, rfl, h10, b10⟩
   rw [HCP.out] at h10
   obtain ⟨i10, EA10, ne10, ec10, d10, c10, p10, rfl, h10⟩ := h10
   try simp only [HCP.out]
   have F10 := Lib.hid (F9.out.call b10)
   obtain ⟨⟨r0, r1, r2, r3, r4, r5, r6⟩, ⟨z0, z1, z2, z3, z4, z5, z6⟩, ⟨y0, y1, y2, y3, y4, y5, y6⟩, ⟨x0, x1, x2, x3, x4, x5, x6⟩, hlt0, hlt1⟩ := F10.out.cells
   go_wp2
   obtain ⟨wS, hwS⟩ : ∃ wS, wS = (((((((w10).setCell ⟨w.heap.size + 1, 0, none⟩ (.slice TA n tc)).setCell ⟨w.heap.size + 1, 1, none⟩ (.int .i64 ((i10 : Nat) : Int))).setCell ⟨w.heap.size + 1, 2, none⟩ (.slice SA ns sc)).setCell ⟨w.heap.size + 1, 3, none⟩ (.slice EA10 ne10 ec10)).setCell ⟨w.heap.size + 1, 4, none⟩ (.int .i64 ((d10 : Nat) : Int))).setCell ⟨w.heap.size + 1, 5, none⟩ (.int .i64 ((c10 : Nat) : Int))).setCell ⟨w.heap.size + 1, 6, none⟩ (.int .i64 ((p10 : Nat) : Int)) := ⟨_, rfl⟩
   rw [← hwS]
   obtain ⟨f1, f2, f3⟩ := F9.out.fin b10 h10 hwS
   obtain ⟨g0, g1, g2, g3, g4, g5, g6⟩ := cells7 f1
   clear hwS f1
   exact bodyPost_ret (v := .tuple #[.agg #[.slice TA n tc, .int .i64 ((i10 : Nat) : Int), .slice SA ns sc, .slice EA10 ne10 ec10, .int .i64 ((d10 : Nat) : Int), .int .i64 ((c10 : Nat) : Int), .int .i64 ((p10 : Nat) : Int)], .int .i64 ((vd : Nat) : Int)]) (by simp [results, Tryz.results202, go_sem, g0, g1, g2, g3, g4, g5, g6]) rfl ⟨_, by rw [HR.out], by rw [HR.out]; exact f2.ro, f3⟩
end
end Go.Proofs.YtghlnncfigkkaaaGreatDoor
namespace Go.Proofs.YtghlnncfigkkaaaGreatDoor
set_option linter.unusedVariables false
set_option linter.unusedSimpArgs false
open Go.RowKit
attribute [local go_sem ↓] tok_field3 tok_field0
section
variable {X Y : Nat → Prop} {TA SA : Option Addr} {tc n ns sc : Nat} {L : List Tok} {s s' : PS} {w0 w w1 wS : World} {i ne ec d c p : Nat} {EA : Option Addr} {b : Array Value} {Q : List (Nat × Obj)}
set_option maxRecDepth 100000 in
set_option maxHeartbeats 4000000 in
theorem ratom_paren (f : Nat) (ih : ∀ f', f' ≤ f → AllR TA tc L n SA ns sc f') (h : ST X TA L s w n SA ns sc i EA ne ec d c p) (hf : 12 * (L.length - s.i) + 1 ≤ f + 1) (herr : s.err = none) (h2 : (nowP L s).kind ≠ 2) (h1 : (nowP L s).kind ≠ 1) (hn : (callP (nowP L s)).2 = 0) (hq : isP L s tOpen = true) (hd : s.deep ≠ 32) :
  Calls Tryz.prog 202 #[.agg #[.slice TA n tc, .int .i64 ((i : Nat) : Int), .slice SA ns sc, .slice EA ne ec, .int .i64 ((d : Nat) : Int), .int .i64 ((c : Nat) : Int), .int .i64 ((p : Nat) : Int)]] w (RLv X TA tc L n SA ns sc w (atomP L (f + 1) s)) := by
 have F0 := Lib.hid (FR.made (tc := tc) h #[(.slice none 0 0), (.int .i64 0), (.slice none 0 0), (.slice none 0 0), (.int .i64 0), (.int .i64 0), (.int .i64 0)])
 obtain ⟨kd, tx, nm, ps, hnow⟩ : ∃ kd tx nm ps, nowP L s = ⟨kd, tx, nm, ps⟩ := ⟨_, _, _, _, rfl⟩
 obtain ⟨e1, e2, e3, e4, e5, e6⟩ := h.el
 have HNOW := Lib.hid hnow
 have IH := Lib.hid ih
 have HF := Lib.hid hf
 have hc0 : c = 0 := by rw [h.ecc]; unfold eC; rw [herr]
 have q0 : ((c : Int) == 0) = true := by rw [beq_iff_eq]; omega
 have q0' : ((c : Int) != 0) = false := by rw [bne_eq_false_iff_eq]; omega
 have HERR := Lib.hid herr
 obtain ⟨ck, cn, hc⟩ : ∃ ck cn, callP ⟨kd, tx, nm, ps⟩ = (ck, cn) := ⟨_, _, rfl⟩
 have hcn : cn ≤ 3 := by
  rcases call_cases ⟨kd, tx, nm, ps⟩ with h | h | h | h | h | h <;> rw [hc] at h <;> injection h <;> omega
 have HCL := Lib.hid hc
 rw [hnow] at h2 h1
 have q2 : ((kd : Int) == 2) = false := by rw [beq_eq_false_iff_ne]; dsimp only at h2; omega
 have Q2 : Hid ((kd == 2) = false) := by show (kd == 2) = false; rw [beq_eq_false_iff_ne]; exact h2
 have q1 : ((kd : Int) == 1) = false := by rw [beq_eq_false_iff_ne]; dsimp only at h1; omega
 have Q1 : Hid ((kd == 1) = false) := by show (kd == 1) = false; rw [beq_eq_false_iff_ne]; exact h1
 have HAT := Lib.hid (show atomP L (f + 1) s = (if (!isP L s tOpen) && (cn == 0) then (failP L s 130, 0) else
   if (sinkP L s).2 then
    if cn == 0 then (riseP (wantP L (exprP L f (advP (sinkP L s).1)).1 tShut), (exprP L f (advP (sinkP L s).1)).2)
    else putP (riseP (wantP L (argsP L f cn (wantP L (advP (sinkP L s).1) tOpen) []).1 tShut)) ⟨ck, noB, 0, (argsP L f cn (wantP L (advP (sinkP L s).1) tOpen) []).2, ps⟩
   else ((sinkP L s).1, 0)) from by rw [atomP]; simp only [HERR.out, HNOW.out, Q1.out, Q2.out, HCL.out]; rfl)
 clear herr h2 h1 hc0
 rw [hnow, hc] at hn
 obtain rfl : cn = 0 := hn
 have hsk : sinkP L s = ({ s with deep := s.deep + 1 }, true) := by unfold sinkP; exact if_neg hd
 have qd : decide ((32 : Int) ≤ (d : Int)) = false := by rw [decide_eq_false_iff_not]; omega
 have HDD := Lib.hid (show s.deep < 32 from by omega)
 have HIA := Lib.hid (show i ≤ 1000 ∧ d < 32 from by omega)
 have HXX := Lib.hid h.rr.xx
 have hlt := isP_lt hq
 obtain ⟨so, hso⟩ : ∃ so, so = advP { s with deep := s.deep + 1 } := ⟨_, rfl⟩
 have hsoi : so.i = s.i + 1 := by rw [hso]; rfl
 have hsod : so.deep = s.deep + 1 := by rw [hso]; rfl
 obtain ⟨sb, vb, hB⟩ : ∃ sb vb, exprP L f so = (sb, vb) := ⟨_, _, rfl⟩
 have g1 := (allG L f).expr so
 rw [hB] at g1
 obtain ⟨sw, hsw⟩ : ∃ sw, wantP L sb tShut = sw := ⟨_, rfl⟩
 have gw := G.want (L := L) sb tShut
 rw [hsw] at gw
 have hsd0 : sw.deep = s.deep + 1 := by rw [gw.hd, g1.hd]; exact hsod
 have HSD := Lib.hid (show 1 ≤ sw.deep ∧ sw.deep ≤ 32 from by omega)
 have HB := Lib.hid (fun (Y : Nat → Prop) w i EA ne ec d c p (h' : ST Y TA L so w n SA ns sc i EA ne ec d c p) => (IH.out f (Nat.le_refl _)).j1 h' (by have := HF.out; omega))
 rw [hB] at HB
 have HR := Lib.hid (show atomP L (f + 1) s = (riseP sw, vb) from by rw [HAT.out]; simp only [hq, hsk, ← hso, hB, hsw]; rfl)
 have HLT := Lib.hid hlt
 have HSO := Lib.hid hso
 have HSW := Lib.hid hsw
 have HQ := Lib.hid hq
 have HK0 := Lib.hid (show (KPar so sb vb) 0 so [] from .inl ⟨rfl, rfl, rfl⟩)
 clear hq hlt hso hsoi hsod hB g1 hsw gw hsd0 hsk hd ih h hnow hc hf e1 e2 e3 e4 e5 e6 hcn
 go_enter Tryz.func202, Tryz.ntmps202
 go_wp2_with fail
 refine (snow F0.out.st tc HNOW.out).mono ?_
 rintro e w1 ⟨rfl, b1⟩
 have F1 := Lib.hid (F0.out.call b1)
 have F2 := Lib.hid (F1.out.alloc (.cells #[.int .i64 ((kd : Nat) : Int), .string tx, .int .u64 ((nm : Nat) : Int), .int .i64 ((ps : Nat) : Int)] 155))
 clear b1
 obtain ⟨⟨r0, r1, r2, r3, r4, r5, r6⟩, ⟨z0, z1, z2, z3, z4, z5, z6⟩, ⟨y0, y1, y2, y3, y4, y5, y6⟩, ⟨x0, x1, x2, x3, x4, x5, x6⟩, hlt0, hlt1⟩ := F1.out.cells
 go_wp2_with fail
 have HCA := calls_any F2.out.st tc
 rw [HNOW.out, HCL.out] at HCA
 refine HCA.mono ?_
 clear HCA
 rintro e w3 ⟨rfl, b3⟩
 clear r0 r1 r2 r3 r4 r5 r6 z0 z1 z2 z3 z4 z5 z6 y0 y1 y2 y3 y4 y5 y6 x0 x1 x2 x3 x4 x5 x6 hlt0 hlt1
 have F3 := Lib.hid (F2.out.call b3)
 clear b3 F1 F2
 obtain ⟨t0, t1, t2, t3, tg0, tg1⟩ := F3.out.tok
 obtain ⟨⟨r0, r1, r2, r3, r4, r5, r6⟩, ⟨z0, z1, z2, z3, z4, z5, z6⟩, ⟨y0, y1, y2, y3, y4, y5, y6⟩, ⟨x0, x1, x2, x3, x4, x5, x6⟩, hlt0, hlt1⟩ := F3.out.cells
 go_wp2_with fail
 refine (sis F3.out.st tc _ HQ.out).mono ?_
 rintro e w4 ⟨rfl, b4⟩
 clear r0 r1 r2 r3 r4 r5 r6 z0 z1 z2 z3 z4 z5 z6 y0 y1 y2 y3 y4 y5 y6 x0 x1 x2 x3 x4 x5 x6 hlt0 hlt1
 clear t0 t1 t2 t3 tg0 tg1
 have F4 := Lib.hid (F3.out.call b4)
 clear b4 F3
 obtain ⟨t0, t1, t2, t3, tg0, tg1⟩ := F4.out.tok
 obtain ⟨⟨r0, r1, r2, r3, r4, r5, r6⟩, ⟨z0, z1, z2, z3, z4, z5, z6⟩, ⟨y0, y1, y2, y3, y4, y5, y6⟩, ⟨x0, x1, x2, x3, x4, x5, x6⟩, hlt0, hlt1⟩ := F4.out.cells
 obtain ⟨hi1, hd1⟩ := HIA.out
 go_wp2
 obtain ⟨i5, hi5⟩ : ∃ i5, i5 = i + 1 := ⟨_, rfl⟩
 obtain ⟨d5, hd5⟩ : ∃ d5, d5 = d + 1 := ⟨_, rfl⟩
 obtain ⟨w5, hw5⟩ : ∃ w5, w5 = (w4.setCell ⟨w.heap.size, 4, none⟩ (.int .i64 ((d : Int) + 1))).setCell ⟨w.heap.size, 1, none⟩ (.int .i64 ((i : Int) + 1)) := ⟨_, rfl⟩
 have F5 := Lib.hid (show FR X TA L n SA ns sc tc w w5 so i5 EA ne ec d5 c p #[(.slice none 0 0), (.int .i64 0), (.slice none 0 0), (.slice none 0 0), (.int .i64 0), (.int .i64 0), (.int .i64 0)] [(w1.heap.size, .cells #[.int .i64 ((kd : Nat) : Int), .string tx, .int .u64 ((nm : Nat) : Int), .int .i64 ((ps : Nat) : Int)] 155)] from by rw [HSO.out, hw5]; exact (F4.out.deepen HDD.out hd5).adv HLT.out hi5)
 have h5i : ((i : Int) + 1) = ((i5 : Nat) : Int) := by rw [hi5]; rfl
 have h5d : ((d : Int) + 1) = ((d5 : Nat) : Int) := by rw [hd5]; rfl
 try rw [← hw5]
 try simp only [h5i, h5d]
 clear r0 r1 r2 r3 r4 r5 r6 z0 z1 z2 z3 z4 z5 z6 y0 y1 y2 y3 y4 y5 y6 x0 x1 x2 x3 x4 x5 x6 hlt0 hlt1
 clear hw5 h5i hi5 h5d hd5 hi1 hd1 t0 t1 t2 t3 tg0 tg1 F4
 have HLB := Lib.hid (show w.heap.size + 1 < w5.heap.size ∧ w1.heap.size < w5.heap.size from ⟨F5.out.bx.lt, by obtain ⟨t0, t1, t2, t3, tg0, tg1⟩ := F5.out.tok; exact tg1⟩)
 obtain ⟨B, hBB⟩ : ∃ B, B = w5.heap.size := ⟨_, rfl⟩
 rw [← hBB] at HLB
 have hBle := Lib.hid (show B ≤ w5.heap.size from Nat.le_of_eq hBB)
 clear hBB
 go_loopw [7, 8] (fun av iv wr => RA X TA tc L n SA ns sc w B (1) [(w1.heap.size, .cells #[.int .i64 ((kd : Nat) : Int), .string tx, .int .u64 ((nm : Nat) : Int), .int .i64 ((ps : Nat) : Int)] 155)] (KPar so sb vb) av iv wr) (fun _ iv _ => (1) - (intOf iv).toNat)
 case atStart => exact ⟨0, so, [], none, 0, _, _, _, _, _, _, _, Nat.zero_le _, rfl, rfl, rfl, HK0.out, F5.out.xnil, Own.nil _ _ _, hBle.out⟩
 case round =>
  obtain ⟨j, s', l, A, cap, ia, EAa, nea, eca, da, ca, pa, hj, rfl, rfl, hl, hk, fa, ho, hbw⟩ := hrel
  have HBW := Lib.hid hbw
  have FA := Lib.hid fa
  have HO := Lib.hid ho
  have HLL := Lib.hid hl
  have HK := Lib.hid hk
  clear fa ho hl hk hbw F5
  by_cases hlt2 : j < 1
  ·obtain ⟨rfl, rfl, rfl⟩ : 0 = j ∧ so = s' ∧ [] = l := by
    rcases HK.out with ⟨h1, h2, h3⟩ | ⟨h, _⟩
    ·exact ⟨h1.symm, h2.symm, h3.symm⟩
    ·omega
   have HX := Lib.hid (show (KPar so sb vb) (0 + 1) sb ([] ++ [vb]) from .inr ⟨rfl, rfl, rfl⟩)
   have HSZ0 := Lib.hid HBW.out
   obtain ⟨⟨r0, r1, r2, r3, r4, r5, r6⟩, ⟨z0, z1, z2, z3, z4, z5, z6⟩, ⟨y0, y1, y2, y3, y4, y5, y6⟩, ⟨x0, x1, x2, x3, x4, x5, x6⟩, hlt0, hlt1⟩ := FA.out.cells
   go_wp2_with fail
   clear r0 r1 r2 r3 r4 r5 r6 z0 z1 z2 z3 z4 z5 z6 y0 y1 y2 y3 y4 y5 y6 x0 x1 x2 x3 x4 x5 x6 hlt0 hlt1
   refine (HB.out _ _ _ _ _ _ _ _ _ FA.out.st).mono ?_
   rintro e w8 ⟨v, rfl, ⟨i8, EA8, ne8, ec8, d8, c8, p8, rfl, h8⟩, b8⟩
   have F8 := Lib.hid (FA.out.call b8)
   have HO8 := Lib.hid (HO.out.next b8)
   obtain ⟨⟨r0, r1, r2, r3, r4, r5, r6⟩, ⟨z0, z1, z2, z3, z4, z5, z6⟩, ⟨y0, y1, y2, y3, y4, y5, y6⟩, ⟨x0, x1, x2, x3, x4, x5, x6⟩, hlt0, hlt1⟩ := F8.out.cells
   go_wp2_with (at_builtin; obtain ⟨w9, hwS⟩ : ∃ wS, wS = (((((((w8).setCell ⟨w.heap.size, 0, none⟩ (.slice TA n tc)).setCell ⟨w.heap.size, 1, none⟩ (.int .i64 ((i8 : Nat) : Int))).setCell ⟨w.heap.size, 2, none⟩ (.slice SA ns sc)).setCell ⟨w.heap.size, 3, none⟩ (.slice EA8 ne8 ec8)).setCell ⟨w.heap.size, 4, none⟩ (.int .i64 ((d8 : Nat) : Int))).setCell ⟨w.heap.size, 5, none⟩ (.int .i64 ((c8 : Nat) : Int))).setCell ⟨w.heap.size, 6, none⟩ (.int .i64 ((p8 : Nat) : Int)) := ⟨_, rfl⟩; rw [← hwS]; have F9 := Lib.hid (FA.out.take b8 h8 hwS); have HO9 := Lib.hid (FA.out.takeO b8 HO8.out hwS); have hsz : w9.heap.size = w8.heap.size := (by rw [hwS]; simp [World.setCell]); have hsz2 : B ≤ w9.heap.size := (by rw [hsz]; exact Nat.le_trans HSZ0.out b8.size); clear hwS b8 h8; clear r0 r1 r2 r3 r4 r5 r6 z0 z1 z2 z3 z4 z5 z6 y0 y1 y2 y3 y4 y5 y6 x0 x1 x2 x3 x4 x5 x6 hlt0 hlt1; have F10 := Lib.hid (F9.out.al (.cells #[I64 vb] 3)); have HO10 := Lib.hid (HO9.out.alloc (.cells #[I64 vb] 3)); refine appI rfl (.tmp 94) (.tmp 96) rfl B A cap [] 0 HLL.out rfl HO10.out w9.heap.size (by rw [hsz]; rfl) vb (heap_alloc_new _ _) (by omega) (by simp; omega) ?_; intro A' cap' w11 ho11 hg11 hA11; have F11 := Lib.hid (FR.grown F10.out HO10.out HLB.out.1 (fun q hq => by rcases List.mem_cons.1 hq with rfl | hq; exact HLB.out.2; cases hq) hg11 ho11 hA11); have HO11 := Lib.hid ho11; have HB11 := Lib.hid (show B ≤ w11.heap.size from Nat.le_trans (by simp; omega) hg11.size); clear ho11 hg11 hA11)
   refine ⟨⟨0 + 1, sb, [] ++ [vb], A', cap', _, _, _, _, _, _, _, by omega, by go_num, rfl, by rw [List.length_append, HLL.out]; rfl, HX.out, F11.out, HO11.out, HB11.out⟩, by first | (simp [intOf]; done) | (simp [intOf]; omega)⟩
  ·obtain ⟨rfl, rfl, rfl⟩ : 1 = j ∧ sb = s' ∧ [vb] = l := by
    rcases HK.out with ⟨h, _⟩ | ⟨h1, h2, h3⟩
    ·omega
    ·exact ⟨h1.symm, h2.symm, h3.symm⟩
   have HSWL := HSW.out
   have HSWL := Lib.hid HSWL
   obtain ⟨⟨r0, r1, r2, r3, r4, r5, r6⟩, ⟨z0, z1, z2, z3, z4, z5, z6⟩, ⟨y0, y1, y2, y3, y4, y5, y6⟩, ⟨x0, x1, x2, x3, x4, x5, x6⟩, hlt0, hlt1⟩ := FA.out.cells
   go_wp2_with fail
   refine (swant FA.out.st tc tShut).mono ?_
   rintro e w7 ⟨v, rfl, h7, b7⟩
   rw [HSWL.out] at h7
   obtain ⟨i7, EA7, ne7, ec7, d7, c7, p7, rfl, h7⟩ := h7
   have F7 := Lib.hid (FA.out.call b7)
   have HO7 := Lib.hid (HO.out.next b7)
   have hd7 : 1 ≤ d7 ∧ d7 ≤ 32 := by rw [h7.ed]; exact HSD.out
   obtain ⟨t0, t1, t2, t3, tg0, tg1⟩ := F7.out.tok
   clear r0 r1 r2 r3 r4 r5 r6 z0 z1 z2 z3 z4 z5 z6 y0 y1 y2 y3 y4 y5 y6 x0 x1 x2 x3 x4 x5 x6 hlt0 hlt1
   obtain ⟨⟨r0, r1, r2, r3, r4, r5, r6⟩, ⟨z0, z1, z2, z3, z4, z5, z6⟩, ⟨y0, y1, y2, y3, y4, y5, y6⟩, ⟨x0, x1, x2, x3, x4, x5, x6⟩, hlt0, hlt1⟩ := F7.out.cells
   go_wp2
   obtain ⟨w8, hwS⟩ : ∃ wS, wS = (((((((w7).setCell ⟨w.heap.size, 0, none⟩ (.slice TA n tc)).setCell ⟨w.heap.size, 1, none⟩ (.int .i64 ((i7 : Nat) : Int))).setCell ⟨w.heap.size, 2, none⟩ (.slice SA ns sc)).setCell ⟨w.heap.size, 3, none⟩ (.slice EA7 ne7 ec7)).setCell ⟨w.heap.size, 4, none⟩ (.int .i64 ((d7 : Nat) : Int))).setCell ⟨w.heap.size, 5, none⟩ (.int .i64 ((c7 : Nat) : Int))).setCell ⟨w.heap.size, 6, none⟩ (.int .i64 ((p7 : Nat) : Int)) := ⟨_, rfl⟩
   try rw [← hwS]
   have F8 := Lib.hid (FA.out.take b7 h7 hwS)
   have HO8 := Lib.hid (FA.out.takeO b7 HO7.out hwS)
   have hsz : w8.heap.size = w7.heap.size := by rw [hwS]; simp [World.setCell]
   obtain ⟨d9, hd9⟩ : ∃ d9, d9 = d7 - 1 := ⟨_, rfl⟩
   have h9d : ((d7 : Int) - 1) = ((d9 : Nat) : Int) := by omega
   obtain ⟨w9, hw9⟩ : ∃ w9, w9 = w8.setCell ⟨w.heap.size, 4, none⟩ (.int .i64 ((d7 : Int) - 1)) := ⟨_, rfl⟩
   try rw [← hw9]
   have F9 := Lib.hid (show FR (XA X A) TA L n SA ns sc tc w w9 (riseP sw) i7 EA7 ne7 ec7 d9 c7 p7 #[(.slice none 0 0), (.int .i64 0), (.slice none 0 0), (.slice none 0 0), (.int .i64 0), (.int .i64 0), (.int .i64 0)] [(w1.heap.size, .cells #[.int .i64 ((kd : Nat) : Int), .string tx, .int .u64 ((nm : Nat) : Int), .int .i64 ((ps : Nat) : Int)] 155)] from by rw [hw9]; exact F8.out.rise _ (by rw [h9d]) hd9)
   have HO9 := Lib.hid (show Own w9 B 3 A cap ([vb].map I64) from by rw [hw9]; exact F8.out.setO HO8.out _ _)
   try simp only [h9d]
   try simp only [hsz]
   try clear hwS b7 h7
   clear hw9 hsz h9d hd9 hd7 t0 t1 t2 t3 tg0 tg1
   clear r0 r1 r2 r3 r4 r5 r6 z0 z1 z2 z3 z4 z5 z6 y0 y1 y2 y3 y4 y5 y6 x0 x1 x2 x3 x4 x5 x6 hlt0 hlt1
   clear F7 F8 HO7 HO8
   obtain ⟨g, rfl, hc0, hBg⟩ := own_one HO9.out
   replace hc0 : w9.cell? ⟨g, 0, none⟩ = some (.int .i64 ((vb : Nat) : Int)) := hc0
   have hgl : w.heap.size + 1 < g := Nat.lt_of_lt_of_le HLB.out.1 hBg
   have hgl2 : w.heap.size < g := Nat.lt_trans (Nat.lt_succ_self _) hgl
   obtain ⟨⟨r0, r1, r2, r3, r4, r5, r6⟩, ⟨z0, z1, z2, z3, z4, z5, z6⟩, ⟨y0, y1, y2, y3, y4, y5, y6⟩, ⟨x0, x1, x2, x3, x4, x5, x6⟩, hlt0, hlt1⟩ := F9.out.cells
   go_region
   all_goals
    go_wp2
    obtain ⟨wS, hwS⟩ : ∃ wS, wS = (((((((w9).setCell ⟨w.heap.size + 1, 0, none⟩ (.slice TA n tc)).setCell ⟨w.heap.size + 1, 1, none⟩ (.int .i64 ((i7 : Nat) : Int))).setCell ⟨w.heap.size + 1, 2, none⟩ (.slice SA ns sc)).setCell ⟨w.heap.size + 1, 3, none⟩ (.slice EA7 ne7 ec7)).setCell ⟨w.heap.size + 1, 4, none⟩ (.int .i64 ((d9 : Nat) : Int))).setCell ⟨w.heap.size + 1, 5, none⟩ (.int .i64 ((c7 : Nat) : Int))).setCell ⟨w.heap.size + 1, 6, none⟩ (.int .i64 ((p7 : Nat) : Int)) := ⟨_, rfl⟩
    rw [← hwS]
    obtain ⟨f1, f2, f3⟩ := (F9.out.wide (fun k hk => .inl hk)).fin (Below.refl _ _) (F9.out.wide (fun k hk => .inl hk)).st hwS
    have f4 := f2.call (Below.refl _ _).drew
    have f5 := f3.drew
    obtain ⟨g0, g1, g2, g3, g4, g5, g6⟩ := cells7 f1
    clear hwS f1
    exact bodyPost_ret (v := .tuple #[.agg #[.slice TA n tc, .int .i64 ((i7 : Nat) : Int), .slice SA ns sc, .slice EA7 ne7 ec7, .int .i64 ((d9 : Nat) : Int), .int .i64 ((c7 : Nat) : Int), .int .i64 ((p7 : Nat) : Int)], .int .i64 ((vb : Nat) : Int)]) (by simp [results, Tryz.results202, go_sem, g0, g1, g2, g3, g4, g5, g6]) rfl ⟨_, by rw [HR.out], by rw [HR.out]; exact f4.ro, f5⟩
end
end Go.Proofs.YtghlnncfigkkaaaGreatDoor
