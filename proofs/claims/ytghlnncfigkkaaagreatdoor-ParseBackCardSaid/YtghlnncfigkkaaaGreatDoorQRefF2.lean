/-
  The reference's levels: a SUM. The reference's levels: a PROD. The reference's levels: all of them, by their fuel.
-/
import Derived.Test.YtghlnncfigkkaaaGreatDoorQRefD
import Derived.Test.YtghlnncfigkkaaaGreatDoorQRefG
namespace Go.Proofs.YtghlnncfigkkaaaGreatDoor
set_option linter.unusedVariables false
set_option linter.unusedSimpArgs false
open Go.RowKit
attribute [local go_sem ↓] tok_field3 tok_field0
section
variable {X Y : Nat → Prop} {TA SA : Option Addr} {tc n ns sc : Nat} {L : List Tok} {s s' : PS} {w0 w w1 wS : World} {i ne ec d c p : Nat} {EA : Option Addr} {b : Array Value} {Q : List (Nat × Obj)}
set_option maxRecDepth 100000 in
set_option maxHeartbeats 4000000 in
theorem j2_step (f : Nat) (ih : ∀ f', f' ≤ f → AllR TA tc L n SA ns sc f') (h : ST X TA L s w n SA ns sc i EA ne ec d c p) (hf : 12 * (L.length - s.i) + 5 ≤ f + 1) :
  Calls Tryz.prog 144 #[.agg #[.slice TA n tc, .int .i64 ((i : Nat) : Int), .slice SA ns sc, .slice EA ne ec, .int .i64 ((d : Nat) : Int), .int .i64 ((c : Nat) : Int), .int .i64 ((p : Nat) : Int)], .int .i64 2] w (RLv X TA tc L n SA ns sc w (sumP L (f + 1) s)) := by
 have F0 := Lib.hid (FR.made (tc := tc) h #[(.slice none 0 0), (.int .i64 0), (.slice none 0 0), (.slice none 0 0), (.int .i64 0), (.int .i64 0), (.int .i64 0)])
 have hel := h.el
 have HS := Lib.hid ((ih f (Nat.le_refl _)).j3 F0.out.st (by omega))
 have g1 := (allG L f).prod s
 obtain ⟨sa, va, hA⟩ : ∃ sa va, prodP L f s = (sa, va) := ⟨_, _, rfl⟩
 rw [hA] at HS g1
 obtain ⟨R, hR⟩ : ∃ R, R = sumLoopP L f sa va := ⟨_, rfl⟩
 have hRR : sumP L (f + 1) s = R := by rw [sumP, hA, hR]
 rw [hRR]
 have HR0 := Lib.hid hR
 have hi1 : s.i ≤ sa.i := g1.hi
 have IH := Lib.hid ih
 have HFA := Lib.hid (show 12 * (L.length - sa.i) + 1 ≤ f by omega)
 clear ih hA h g1 hel hR hRR hi1
 go_enter Tryz.func144, Tryz.ntmps144
 go_wp2_with fail
 refine HS.out.mono ?_
 rintro e w1 ⟨v, rfl, ⟨i1, EA1, ne1, ec1, d1, c1, p1, rfl, h1⟩, b1⟩
 have F1 := Lib.hid (F0.out.call b1)
 obtain ⟨⟨r0, r1, r2, r3, r4, r5, r6⟩, ⟨z0, z1, z2, z3, z4, z5, z6⟩, ⟨y0, y1, y2, y3, y4, y5, y6⟩, ⟨x0, x1, x2, x3, x4, x5, x6⟩, hlt0, hlt1⟩ := F1.out.cells
 go_wp2
 obtain ⟨w1', hwS⟩ : ∃ wS, wS = (((((((w1).setCell ⟨w.heap.size, 0, none⟩ (.slice TA n tc)).setCell ⟨w.heap.size, 1, none⟩ (.int .i64 ((i1 : Nat) : Int))).setCell ⟨w.heap.size, 2, none⟩ (.slice SA ns sc)).setCell ⟨w.heap.size, 3, none⟩ (.slice EA1 ne1 ec1)).setCell ⟨w.heap.size, 4, none⟩ (.int .i64 ((d1 : Nat) : Int))).setCell ⟨w.heap.size, 5, none⟩ (.int .i64 ((c1 : Nat) : Int))).setCell ⟨w.heap.size, 6, none⟩ (.int .i64 ((p1 : Nat) : Int)) := ⟨_, rfl⟩
 rw [← hwS]
 have F2 := Lib.hid (F0.out.take b1 h1 hwS)
 have hsz : w1.heap.size = w1'.heap.size := by rw [hwS]; simp [World.setCell]
 try simp only [hsz]
 clear hsz hwS b1 h1
 clear r0 r1 r2 r3 r4 r5 r6 z0 z1 z2 z3 z4 z5 z6 y0 y1 y2 y3 y4 y5 y6 x0 x1 x2 x3 x4 x5 x6 hlt0 hlt1
 clear F1
 go_loopw [6] (fun av wr => JR X TA tc L n SA ns sc w f R (sumLoopP L) av wr) (fun av wr => L.length - curI w.heap.size wr)
 case atStart => exact ⟨f, sa, va, _, _, _, _, _, _, _, Nat.le_refl _, HR0.out, rfl, F2.out, HFA.out⟩
 case round =>
  obtain ⟨f', s', a', ia, EAa, nea, eca, da, ca, pa, hf', hr, rfl, fa, hn⟩ := hrel
  obtain ⟨f', rfl⟩ : ∃ g, f' = g + 1 := ⟨f' - 1, by omega⟩
  have FA := Lib.hid fa
  have hcur := Lib.hid fa.cur
  have HRR := Lib.hid hr
  have HN := Lib.hid hn
  obtain ⟨kd, tx, nm, ps, hnow⟩ : ∃ kd tx nm ps, nowP L s' = ⟨kd, tx, nm, ps⟩ := ⟨_, _, _, _, rfl⟩
  have HNOW := Lib.hid hnow
  clear fa F2 F0 HS hr hnow HR0 HFA hn
  obtain ⟨⟨r0, r1, r2, r3, r4, r5, r6⟩, ⟨z0, z1, z2, z3, z4, z5, z6⟩, ⟨y0, y1, y2, y3, y4, y5, y6⟩, ⟨x0, x1, x2, x3, x4, x5, x6⟩, hlt0, hlt1⟩ := FA.out.cells
  cases hq0 : isP L s' tPlus with
  | true =>
   have hlt := isP_lt hq0
   obtain ⟨e1, e2, e3, e4, e5, e6⟩ := FA.out.st.el
   have HB := Lib.hid (fun w i EA ne ec d c p (h' : ST X TA L (advP s') w n SA ns sc i EA ne ec d c p) => (IH.out f' (by omega)).j3 h' (by have := HN.out; show 12 * (L.length - (s'.i + 1)) + 4 ≤ f'; omega))
   have g2 := (allG L f').prod (advP s')
   obtain ⟨sb, vb, hB⟩ : ∃ sb vb, prodP L f' (advP s') = (sb, vb) := ⟨_, _, rfl⟩
   rw [hB] at HB g2
   have h2 := g2.he
   have h3 := g2.hi
   have h4 : (advP s').i = s'.i + 1 := rfl
   have h5 : (advP s').es = s'.es := rfl
   simp only [h4, h5] at h2 h3
   have HBIG := Lib.hid (show sb.es.length + 1 ≤ sb.i from by omega)
   obtain ⟨sd, vd, hC⟩ : ∃ sd vd, putP sb ⟨4, noB, 0, [a', vb], ps⟩ = (sd, vd) := ⟨_, _, rfl⟩
   have hci : sd.i = sb.i := by
    have e : sd = (putP sb ⟨4, noB, 0, [a', vb], ps⟩).1 := by rw [hC]
    rw [e, put_i]
   have HCI := Lib.hid hci
   have HC := Lib.hid hC
   have HX := Lib.hid (show R = sumLoopP L f' sd vd from by rw [HRR.out, sumLoopP]; simp only [hq0, hB, HNOW.out, hC]; rfl)
   have HQ := Lib.hid hq0
   have HLT := Lib.hid hlt
   have HH3 := Lib.hid h3
   have HIA := Lib.hid (show ia ≤ 1000 from by omega)
   clear hlt g2 hB hC h2 h3 h4 h5 hci e1 e2 e3 e4 e5 e6
   clear hq0
   go_wp2_with fail
   refine (lev2p FA.out.st tc HQ.out).mono ?_
   rintro e w2 ⟨rfl, b2⟩
   clear r0 r1 r2 r3 r4 r5 r6 z0 z1 z2 z3 z4 z5 z6 y0 y1 y2 y3 y4 y5 y6 x0 x1 x2 x3 x4 x5 x6 hlt0 hlt1
   have F2 := Lib.hid (FA.out.call b2)
   clear b2
   obtain ⟨⟨r0, r1, r2, r3, r4, r5, r6⟩, ⟨z0, z1, z2, z3, z4, z5, z6⟩, ⟨y0, y1, y2, y3, y4, y5, y6⟩, ⟨x0, x1, x2, x3, x4, x5, x6⟩, hlt0, hlt1⟩ := F2.out.cells
   go_wp2_with fail
   clear r0 r1 r2 r3 r4 r5 r6
   have hS := Lib.hid (show Below w2.heap.size w2 w2.drew ∧ w2.cell? ⟨w.heap.size, 0, none⟩ = some (.slice TA n tc) ∧ w2.cell? ⟨w.heap.size, 1, none⟩ = some (.int .i64 ((ia : Nat) : Int)) ∧ w2.cell? ⟨w.heap.size, 2, none⟩ = some (.slice SA ns sc) ∧ w2.cell? ⟨w.heap.size, 3, none⟩ = some (.slice EAa nea eca) ∧ w2.cell? ⟨w.heap.size, 4, none⟩ = some (.int .i64 ((da : Nat) : Int)) ∧ w2.cell? ⟨w.heap.size, 5, none⟩ = some (.int .i64 ((ca : Nat) : Int)) ∧ w2.cell? ⟨w.heap.size, 6, none⟩ = some (.int .i64 ((pa : Nat) : Int)) from ⟨(Below.refl _ _).drew, cells7 F2.out.bx.k0⟩)
   have HL := Lib.hid (fun W (hW : Below w2.heap.size w2 W) => lev2p (F2.out.st.call hW) tc HQ.out)
   have HNO := Lib.hid (fun W (hW : Below w2.heap.size w2 W) => snow (F2.out.st.call hW) tc HNOW.out)
   go_region_held3 (fun w' => Below w2.heap.size w2 w' ∧ w'.cell? ⟨w.heap.size, 0, none⟩ = some (.slice TA n tc) ∧ w'.cell? ⟨w.heap.size, 1, none⟩ = some (.int .i64 ((ia : Nat) : Int)) ∧ w'.cell? ⟨w.heap.size, 2, none⟩ = some (.slice SA ns sc) ∧ w'.cell? ⟨w.heap.size, 3, none⟩ = some (.slice EAa nea eca) ∧ w'.cell? ⟨w.heap.size, 4, none⟩ = some (.int .i64 ((da : Nat) : Int)) ∧ w'.cell? ⟨w.heap.size, 5, none⟩ = some (.int .i64 ((ca : Nat) : Int)) ∧ w'.cell? ⟨w.heap.size, 6, none⟩ = some (.int .i64 ((pa : Nat) : Int))) (first | with_reducible exact hS.out | assumption | exact keep8 (by assumption) (by assumption))
    (first
     | (go_at_call 177; refine (HL.out _ (And.left (by assumption))).mono ?_; rintro e w3 ⟨rfl, b3⟩)
     | (go_at_call 87; refine (HNO.out _ (And.left (by assumption))).mono ?_; rintro e w3 ⟨rfl, b3⟩))
   all_goals
    rename_i hH
    have F3 := Lib.hid (F2.out.call hH.1)
    clear hH b3 hS HL HNO z0 z1 z2 z3 z4 z5 z6 y0 y1 y2 y3 y4 y5 y6 x0 x1 x2 x3 x4 x5 x6 hlt0 hlt1
    obtain ⟨⟨r0, r1, r2, r3, r4, r5, r6⟩, ⟨z0, z1, z2, z3, z4, z5, z6⟩, ⟨y0, y1, y2, y3, y4, y5, y6⟩, ⟨x0, x1, x2, x3, x4, x5, x6⟩, hlt0, hlt1⟩ := F3.out.cells
    have hia : ia ≤ 1000 := HIA.out
    go_wp2_with fail
    obtain ⟨i4, hi4⟩ : ∃ i4, i4 = ia + 1 := ⟨_, rfl⟩
    obtain ⟨w4, hw4⟩ : ∃ w4, w4 = w3.setCell ⟨w.heap.size, 1, none⟩ (.int .i64 ((ia : Int) + 1)) := ⟨_, rfl⟩
    have F4 := Lib.hid (show FR X TA L n SA ns sc tc w w4 (advP s') i4 EAa nea eca da ca pa #[(.slice none 0 0), (.int .i64 0), (.slice none 0 0), (.slice none 0 0), (.int .i64 0), (.int .i64 0), (.int .i64 0)] [] from by rw [hw4]; exact F3.out.adv HLT.out hi4)
    have h4i : ((ia : Int) + 1) = ((i4 : Nat) : Int) := by rw [hi4]; rfl
    try rw [← hw4]
    simp only [h4i]
    clear r0 r1 r2 r3 r4 r5 r6 z0 z1 z2 z3 z4 z5 z6 y0 y1 y2 y3 y4 y5 y6 x0 x1 x2 x3 x4 x5 x6 hlt0 hlt1
    clear hw4 h4i hi4 hia
    refine (HB.out _ _ _ _ _ _ _ _ F4.out.st).mono ?_
    rintro e w5 ⟨v, rfl, ⟨i5, EA5, ne5, ec5, d5, c5, p5, rfl, h5⟩, b5⟩
    have F5 := Lib.hid (F4.out.call b5)
    obtain ⟨⟨r0, r1, r2, r3, r4, r5, r6⟩, ⟨z0, z1, z2, z3, z4, z5, z6⟩, ⟨y0, y1, y2, y3, y4, y5, y6⟩, ⟨x0, x1, x2, x3, x4, x5, x6⟩, hlt0, hlt1⟩ := F5.out.cells
    go_wp2_with fail
    obtain ⟨w6, hwS⟩ : ∃ wS, wS = (((((((w5).setCell ⟨w.heap.size, 0, none⟩ (.slice TA n tc)).setCell ⟨w.heap.size, 1, none⟩ (.int .i64 ((i5 : Nat) : Int))).setCell ⟨w.heap.size, 2, none⟩ (.slice SA ns sc)).setCell ⟨w.heap.size, 3, none⟩ (.slice EA5 ne5 ec5)).setCell ⟨w.heap.size, 4, none⟩ (.int .i64 ((d5 : Nat) : Int))).setCell ⟨w.heap.size, 5, none⟩ (.int .i64 ((c5 : Nat) : Int))).setCell ⟨w.heap.size, 6, none⟩ (.int .i64 ((p5 : Nat) : Int)) := ⟨_, rfl⟩
    rw [← hwS]
    have F6 := Lib.hid (F4.out.take b5 h5 hwS)
    have hsz : w5.heap.size = w6.heap.size := by rw [hwS]; simp [World.setCell]
    try simp only [hsz]
    clear hsz hwS b5 h5
    clear r0 r1 r2 r3 r4 r5 r6 z0 z1 z2 z3 z4 z5 z6 y0 y1 y2 y3 y4 y5 y6 x0 x1 x2 x3 x4 x5 x6 hlt0 hlt1
    clear F5
    refine (sput ⟨4, noB, 0, [a', vb], ps⟩ (some ⟨w6.heap.size, 0, none⟩) 2 2 (st_args F6.out.st _) tc (rargs2 F6.out.st a' vb) HBIG.out).mono ?_
    rintro e w7 ⟨v, rfl, h7, b7⟩
    rw [HC.out] at h7
    obtain ⟨i7, EA7, ne7, ec7, d7, c7, p7, rfl, h7⟩ := h7
    try simp only [HC.out]
    have F7 := Lib.hid (F6.out.alloc (.cells #[.int .i64 ((a' : Nat) : Int), .int .i64 ((vb : Nat) : Int)] 3))
    have F8 := Lib.hid (F7.out.call b7)
    obtain ⟨⟨r0, r1, r2, r3, r4, r5, r6⟩, ⟨z0, z1, z2, z3, z4, z5, z6⟩, ⟨y0, y1, y2, y3, y4, y5, y6⟩, ⟨x0, x1, x2, x3, x4, x5, x6⟩, hlt0, hlt1⟩ := F8.out.cells
    go_wp2_with fail
    obtain ⟨w9, hwS⟩ : ∃ wS, wS = (((((((w7).setCell ⟨w.heap.size, 0, none⟩ (.slice TA n tc)).setCell ⟨w.heap.size, 1, none⟩ (.int .i64 ((i7 : Nat) : Int))).setCell ⟨w.heap.size, 2, none⟩ (.slice SA ns sc)).setCell ⟨w.heap.size, 3, none⟩ (.slice EA7 ne7 ec7)).setCell ⟨w.heap.size, 4, none⟩ (.int .i64 ((d7 : Nat) : Int))).setCell ⟨w.heap.size, 5, none⟩ (.int .i64 ((c7 : Nat) : Int))).setCell ⟨w.heap.size, 6, none⟩ (.int .i64 ((p7 : Nat) : Int)) := ⟨_, rfl⟩
    rw [← hwS]
    have F9 := Lib.hid (F7.out.take b7 h7 hwS)
    have hsz : w7.heap.size = w9.heap.size := by rw [hwS]; simp [World.setCell]
    try simp only [hsz]
    clear hsz hwS b7 h7
    clear r0 r1 r2 r3 r4 r5 r6 z0 z1 z2 z3 z4 z5 z6 y0 y1 y2 y3 y4 y5 y6 x0 x1 x2 x3 x4 x5 x6 hlt0 hlt1
    clear F8
    refine ⟨⟨f', sd, vd, _, _, _, _, _, _, _, by omega, HX.out, rfl, F9.out.drop, by have := HN.out; have := HCI.out; have := HH3.out; have := HLT.out; omega⟩, ?_⟩
    have e1 := F9.out.cur
    have e2 := hcur.out
    have e3 := HCI.out
    have e4 := HH3.out
    have e5 := HLT.out
    simp only [e1, e2]
    omega
  | false =>
   cases hq1 : isP L s' tMinus with
   | true =>
    have HQ0 := Lib.hid hq0
    have hlt := isP_lt hq1
    obtain ⟨e1, e2, e3, e4, e5, e6⟩ := FA.out.st.el
    have HB := Lib.hid (fun w i EA ne ec d c p (h' : ST X TA L (advP s') w n SA ns sc i EA ne ec d c p) => (IH.out f' (by omega)).j3 h' (by have := HN.out; show 12 * (L.length - (s'.i + 1)) + 4 ≤ f'; omega))
    have g2 := (allG L f').prod (advP s')
    obtain ⟨sb, vb, hB⟩ : ∃ sb vb, prodP L f' (advP s') = (sb, vb) := ⟨_, _, rfl⟩
    rw [hB] at HB g2
    have h2 := g2.he
    have h3 := g2.hi
    have h4 : (advP s').i = s'.i + 1 := rfl
    have h5 : (advP s').es = s'.es := rfl
    simp only [h4, h5] at h2 h3
    have HBIG := Lib.hid (show sb.es.length + 1 ≤ sb.i from by omega)
    obtain ⟨sd, vd, hC⟩ : ∃ sd vd, putP sb ⟨5, noB, 0, [a', vb], ps⟩ = (sd, vd) := ⟨_, _, rfl⟩
    have hci : sd.i = sb.i := by
     have e : sd = (putP sb ⟨5, noB, 0, [a', vb], ps⟩).1 := by rw [hC]
     rw [e, put_i]
    have HCI := Lib.hid hci
    have HC := Lib.hid hC
    have HX := Lib.hid (show R = sumLoopP L f' sd vd from by rw [HRR.out, sumLoopP]; simp only [hq0, hq1, hB, HNOW.out, hC]; rfl)
    have HQ := Lib.hid hq1
    have HLT := Lib.hid hlt
    have HH3 := Lib.hid h3
    have HIA := Lib.hid (show ia ≤ 1000 from by omega)
    clear hlt g2 hB hC h2 h3 h4 h5 hci e1 e2 e3 e4 e5 e6
    clear hq0 hq1
    go_wp2_with fail
    refine (lev2m FA.out.st tc HQ0.out HQ.out).mono ?_
    rintro e w2 ⟨rfl, b2⟩
    clear r0 r1 r2 r3 r4 r5 r6 z0 z1 z2 z3 z4 z5 z6 y0 y1 y2 y3 y4 y5 y6 x0 x1 x2 x3 x4 x5 x6 hlt0 hlt1
    have F2 := Lib.hid (FA.out.call b2)
    clear b2
    obtain ⟨⟨r0, r1, r2, r3, r4, r5, r6⟩, ⟨z0, z1, z2, z3, z4, z5, z6⟩, ⟨y0, y1, y2, y3, y4, y5, y6⟩, ⟨x0, x1, x2, x3, x4, x5, x6⟩, hlt0, hlt1⟩ := F2.out.cells
    go_wp2_with fail
    clear r0 r1 r2 r3 r4 r5 r6
    have hS := Lib.hid (show Below w2.heap.size w2 w2.drew ∧ w2.cell? ⟨w.heap.size, 0, none⟩ = some (.slice TA n tc) ∧ w2.cell? ⟨w.heap.size, 1, none⟩ = some (.int .i64 ((ia : Nat) : Int)) ∧ w2.cell? ⟨w.heap.size, 2, none⟩ = some (.slice SA ns sc) ∧ w2.cell? ⟨w.heap.size, 3, none⟩ = some (.slice EAa nea eca) ∧ w2.cell? ⟨w.heap.size, 4, none⟩ = some (.int .i64 ((da : Nat) : Int)) ∧ w2.cell? ⟨w.heap.size, 5, none⟩ = some (.int .i64 ((ca : Nat) : Int)) ∧ w2.cell? ⟨w.heap.size, 6, none⟩ = some (.int .i64 ((pa : Nat) : Int)) from ⟨(Below.refl _ _).drew, cells7 F2.out.bx.k0⟩)
    have HL := Lib.hid (fun W (hW : Below w2.heap.size w2 W) => lev2m (F2.out.st.call hW) tc HQ0.out HQ.out)
    have HNO := Lib.hid (fun W (hW : Below w2.heap.size w2 W) => snow (F2.out.st.call hW) tc HNOW.out)
    go_region_held3 (fun w' => Below w2.heap.size w2 w' ∧ w'.cell? ⟨w.heap.size, 0, none⟩ = some (.slice TA n tc) ∧ w'.cell? ⟨w.heap.size, 1, none⟩ = some (.int .i64 ((ia : Nat) : Int)) ∧ w'.cell? ⟨w.heap.size, 2, none⟩ = some (.slice SA ns sc) ∧ w'.cell? ⟨w.heap.size, 3, none⟩ = some (.slice EAa nea eca) ∧ w'.cell? ⟨w.heap.size, 4, none⟩ = some (.int .i64 ((da : Nat) : Int)) ∧ w'.cell? ⟨w.heap.size, 5, none⟩ = some (.int .i64 ((ca : Nat) : Int)) ∧ w'.cell? ⟨w.heap.size, 6, none⟩ = some (.int .i64 ((pa : Nat) : Int))) (first | with_reducible exact hS.out | assumption | exact keep8 (by assumption) (by assumption))
     (first
      | (go_at_call 177; refine (HL.out _ (And.left (by assumption))).mono ?_; rintro e w3 ⟨rfl, b3⟩)
      | (go_at_call 87; refine (HNO.out _ (And.left (by assumption))).mono ?_; rintro e w3 ⟨rfl, b3⟩))
    all_goals
     rename_i hH
     have F3 := Lib.hid (F2.out.call hH.1)
     clear hH b3 hS HL HNO z0 z1 z2 z3 z4 z5 z6 y0 y1 y2 y3 y4 y5 y6 x0 x1 x2 x3 x4 x5 x6 hlt0 hlt1
     obtain ⟨⟨r0, r1, r2, r3, r4, r5, r6⟩, ⟨z0, z1, z2, z3, z4, z5, z6⟩, ⟨y0, y1, y2, y3, y4, y5, y6⟩, ⟨x0, x1, x2, x3, x4, x5, x6⟩, hlt0, hlt1⟩ := F3.out.cells
     have hia : ia ≤ 1000 := HIA.out
     go_wp2_with fail
     obtain ⟨i4, hi4⟩ : ∃ i4, i4 = ia + 1 := ⟨_, rfl⟩
     obtain ⟨w4, hw4⟩ : ∃ w4, w4 = w3.setCell ⟨w.heap.size, 1, none⟩ (.int .i64 ((ia : Int) + 1)) := ⟨_, rfl⟩
     have F4 := Lib.hid (show FR X TA L n SA ns sc tc w w4 (advP s') i4 EAa nea eca da ca pa #[(.slice none 0 0), (.int .i64 0), (.slice none 0 0), (.slice none 0 0), (.int .i64 0), (.int .i64 0), (.int .i64 0)] [] from by rw [hw4]; exact F3.out.adv HLT.out hi4)
     have h4i : ((ia : Int) + 1) = ((i4 : Nat) : Int) := by rw [hi4]; rfl
     try rw [← hw4]
     simp only [h4i]
     clear r0 r1 r2 r3 r4 r5 r6 z0 z1 z2 z3 z4 z5 z6 y0 y1 y2 y3 y4 y5 y6 x0 x1 x2 x3 x4 x5 x6 hlt0 hlt1
     clear hw4 h4i hi4 hia
     refine (HB.out _ _ _ _ _ _ _ _ F4.out.st).mono ?_
     rintro e w5 ⟨v, rfl, ⟨i5, EA5, ne5, ec5, d5, c5, p5, rfl, h5⟩, b5⟩
     have F5 := Lib.hid (F4.out.call b5)
     obtain ⟨⟨r0, r1, r2, r3, r4, r5, r6⟩, ⟨z0, z1, z2, z3, z4, z5, z6⟩, ⟨y0, y1, y2, y3, y4, y5, y6⟩, ⟨x0, x1, x2, x3, x4, x5, x6⟩, hlt0, hlt1⟩ := F5.out.cells
     go_wp2_with fail
     obtain ⟨w6, hwS⟩ : ∃ wS, wS = (((((((w5).setCell ⟨w.heap.size, 0, none⟩ (.slice TA n tc)).setCell ⟨w.heap.size, 1, none⟩ (.int .i64 ((i5 : Nat) : Int))).setCell ⟨w.heap.size, 2, none⟩ (.slice SA ns sc)).setCell ⟨w.heap.size, 3, none⟩ (.slice EA5 ne5 ec5)).setCell ⟨w.heap.size, 4, none⟩ (.int .i64 ((d5 : Nat) : Int))).setCell ⟨w.heap.size, 5, none⟩ (.int .i64 ((c5 : Nat) : Int))).setCell ⟨w.heap.size, 6, none⟩ (.int .i64 ((p5 : Nat) : Int)) := ⟨_, rfl⟩
     rw [← hwS]
     have F6 := Lib.hid (F4.out.take b5 h5 hwS)
     have hsz : w5.heap.size = w6.heap.size := by rw [hwS]; simp [World.setCell]
     try simp only [hsz]
     clear hsz hwS b5 h5
     clear r0 r1 r2 r3 r4 r5 r6 z0 z1 z2 z3 z4 z5 z6 y0 y1 y2 y3 y4 y5 y6 x0 x1 x2 x3 x4 x5 x6 hlt0 hlt1
     clear F5
     refine (sput ⟨5, noB, 0, [a', vb], ps⟩ (some ⟨w6.heap.size, 0, none⟩) 2 2 (st_args F6.out.st _) tc (rargs2 F6.out.st a' vb) HBIG.out).mono ?_
     rintro e w7 ⟨v, rfl, h7, b7⟩
     rw [HC.out] at h7
     obtain ⟨i7, EA7, ne7, ec7, d7, c7, p7, rfl, h7⟩ := h7
     try simp only [HC.out]
     have F7 := Lib.hid (F6.out.alloc (.cells #[.int .i64 ((a' : Nat) : Int), .int .i64 ((vb : Nat) : Int)] 3))
     have F8 := Lib.hid (F7.out.call b7)
     obtain ⟨⟨r0, r1, r2, r3, r4, r5, r6⟩, ⟨z0, z1, z2, z3, z4, z5, z6⟩, ⟨y0, y1, y2, y3, y4, y5, y6⟩, ⟨x0, x1, x2, x3, x4, x5, x6⟩, hlt0, hlt1⟩ := F8.out.cells
     go_wp2_with fail
     obtain ⟨w9, hwS⟩ : ∃ wS, wS = (((((((w7).setCell ⟨w.heap.size, 0, none⟩ (.slice TA n tc)).setCell ⟨w.heap.size, 1, none⟩ (.int .i64 ((i7 : Nat) : Int))).setCell ⟨w.heap.size, 2, none⟩ (.slice SA ns sc)).setCell ⟨w.heap.size, 3, none⟩ (.slice EA7 ne7 ec7)).setCell ⟨w.heap.size, 4, none⟩ (.int .i64 ((d7 : Nat) : Int))).setCell ⟨w.heap.size, 5, none⟩ (.int .i64 ((c7 : Nat) : Int))).setCell ⟨w.heap.size, 6, none⟩ (.int .i64 ((p7 : Nat) : Int)) := ⟨_, rfl⟩
     rw [← hwS]
     have F9 := Lib.hid (F7.out.take b7 h7 hwS)
     have hsz : w7.heap.size = w9.heap.size := by rw [hwS]; simp [World.setCell]
     try simp only [hsz]
     clear hsz hwS b7 h7
     clear r0 r1 r2 r3 r4 r5 r6 z0 z1 z2 z3 z4 z5 z6 y0 y1 y2 y3 y4 y5 y6 x0 x1 x2 x3 x4 x5 x6 hlt0 hlt1
     clear F8
     refine ⟨⟨f', sd, vd, _, _, _, _, _, _, _, by omega, HX.out, rfl, F9.out.drop, by have := HN.out; have := HCI.out; have := HH3.out; have := HLT.out; omega⟩, ?_⟩
     have e1 := F9.out.cur
     have e2 := hcur.out
     have e3 := HCI.out
     have e4 := HH3.out
     have e5 := HLT.out
     simp only [e1, e2]
     omega
   | false =>
    have HR := Lib.hid (show R = (s', a') from by rw [HRR.out, sumLoopP]; simp only [hq0, hq1]; rfl)
    have HQ0 := Lib.hid hq0
    have HQ := Lib.hid hq1
    clear hq0 hq1
    go_wp2_with fail
    refine (lev2n FA.out.st tc HQ0.out HQ.out).mono ?_
    rintro e w2 ⟨rfl, b2⟩
    clear r0 r1 r2 r3 r4 r5 r6 z0 z1 z2 z3 z4 z5 z6 y0 y1 y2 y3 y4 y5 y6 x0 x1 x2 x3 x4 x5 x6 hlt0 hlt1
    have F2 := Lib.hid (FA.out.call b2)
    clear b2
    obtain ⟨⟨r0, r1, r2, r3, r4, r5, r6⟩, ⟨z0, z1, z2, z3, z4, z5, z6⟩, ⟨y0, y1, y2, y3, y4, y5, y6⟩, ⟨x0, x1, x2, x3, x4, x5, x6⟩, hlt0, hlt1⟩ := F2.out.cells
    go_wp2
    obtain ⟨wS, hwS⟩ : ∃ wS, wS = (((((((w2).setCell ⟨w.heap.size + 1, 0, none⟩ (.slice TA n tc)).setCell ⟨w.heap.size + 1, 1, none⟩ (.int .i64 ((ia : Nat) : Int))).setCell ⟨w.heap.size + 1, 2, none⟩ (.slice SA ns sc)).setCell ⟨w.heap.size + 1, 3, none⟩ (.slice EAa nea eca)).setCell ⟨w.heap.size + 1, 4, none⟩ (.int .i64 ((da : Nat) : Int))).setCell ⟨w.heap.size + 1, 5, none⟩ (.int .i64 ((ca : Nat) : Int))).setCell ⟨w.heap.size + 1, 6, none⟩ (.int .i64 ((pa : Nat) : Int)) := ⟨_, rfl⟩
    rw [← hwS]
    obtain ⟨f1, f2, f3⟩ := F2.out.fin (Below.refl _ _) F2.out.st hwS
    obtain ⟨g0, g1, g2, g3, g4, g5, g6⟩ := cells7 f1
    clear hwS f1
    exact bodyPost_ret (v := .tuple #[.agg #[.slice TA n tc, .int .i64 ((ia : Nat) : Int), .slice SA ns sc, .slice EAa nea eca, .int .i64 ((da : Nat) : Int), .int .i64 ((ca : Nat) : Int), .int .i64 ((pa : Nat) : Int)], .int .i64 ((a' : Nat) : Int)]) (by simp [results, Tryz.results144, go_sem, g0, g1, g2, g3, g4, g5, g6]) rfl ⟨_, by rw [HR.out], by rw [HR.out]; exact f2.ro, f3⟩
end
end Go.Proofs.YtghlnncfigkkaaaGreatDoor
namespace Go.Proofs.YtghlnncfigkkaaaGreatDoor
set_option linter.unusedVariables false
set_option linter.unusedSimpArgs false
open Go.RowKit
attribute [local go_sem ↓] tok_field3 tok_field0
section
variable {X Y : Nat → Prop} {TA SA : Option Addr} {tc n ns sc : Nat} {L : List Tok} {s s' : PS} {w0 w w1 wS : World} {i ne ec d c p : Nat} {EA : Option Addr} {b : Array Value} {Q : List (Nat × Obj)}
set_option maxRecDepth 100000 in
set_option maxHeartbeats 4000000 in
theorem j4_any {f : Nat} (ih : AllR TA tc L n SA ns sc f) (h : ST X TA L s w n SA ns sc i EA ne ec d c p) (hf : 12 * (L.length - s.i) + 3 ≤ f) :
  Calls Tryz.prog 144 #[.agg #[.slice TA n tc, .int .i64 ((i : Nat) : Int), .slice SA ns sc, .slice EA ne ec, .int .i64 ((d : Nat) : Int), .int .i64 ((c : Nat) : Int), .int .i64 ((p : Nat) : Int)], .int .i64 4] w (RLv X TA tc L n SA ns sc w (signP L f s)) := by
 have F0 := Lib.hid (FR.made (tc := tc) h #[(.slice none 0 0), (.int .i64 0), (.slice none 0 0), (.slice none 0 0), (.int .i64 0), (.int .i64 0), (.int .i64 0)])
 have HS := Lib.hid (ih.sign F0.out.st hf)
 obtain ⟨sa, va, hA⟩ : ∃ sa va, signP L f s = (sa, va) := ⟨_, _, rfl⟩
 rw [hA] at HS
 have HR := Lib.hid hA
 clear hA h
 go_enter Tryz.func144, Tryz.ntmps144
 go_wp2_with fail
 refine HS.out.mono ?_
 rintro e w1 ⟨v, rfl, ⟨i1, EA1, ne1, ec1, d1, c1, p1, rfl, h1⟩, b1⟩
 have F1 := Lib.hid (F0.out.call b1)
 obtain ⟨⟨r0, r1, r2, r3, r4, r5, r6⟩, ⟨z0, z1, z2, z3, z4, z5, z6⟩, ⟨y0, y1, y2, y3, y4, y5, y6⟩, ⟨x0, x1, x2, x3, x4, x5, x6⟩, hlt0, hlt1⟩ := F1.out.cells
 go_wp2
 obtain ⟨wS, hwS⟩ : ∃ wS, wS = (((((((w1).setCell ⟨w.heap.size + 1, 0, none⟩ (.slice TA n tc)).setCell ⟨w.heap.size + 1, 1, none⟩ (.int .i64 ((i1 : Nat) : Int))).setCell ⟨w.heap.size + 1, 2, none⟩ (.slice SA ns sc)).setCell ⟨w.heap.size + 1, 3, none⟩ (.slice EA1 ne1 ec1)).setCell ⟨w.heap.size + 1, 4, none⟩ (.int .i64 ((d1 : Nat) : Int))).setCell ⟨w.heap.size + 1, 5, none⟩ (.int .i64 ((c1 : Nat) : Int))).setCell ⟨w.heap.size + 1, 6, none⟩ (.int .i64 ((p1 : Nat) : Int)) := ⟨_, rfl⟩
 rw [← hwS]
 obtain ⟨f1, f2, f3⟩ := F0.out.fin b1 h1 hwS
 obtain ⟨g0, g1, g2, g3, g4, g5, g6⟩ := cells7 f1
 clear hwS f1
 exact bodyPost_ret (v := .tuple #[.agg #[.slice TA n tc, .int .i64 ((i1 : Nat) : Int), .slice SA ns sc, .slice EA1 ne1 ec1, .int .i64 ((d1 : Nat) : Int), .int .i64 ((c1 : Nat) : Int), .int .i64 ((p1 : Nat) : Int)], .int .i64 ((va : Nat) : Int)]) (by simp [results, Tryz.results144, go_sem, g0, g1, g2, g3, g4, g5, g6]) rfl ⟨_, by rw [HR.out], by rw [HR.out]; exact f2.ro, f3⟩
set_option maxRecDepth 100000 in
set_option maxHeartbeats 4000000 in
theorem j3_step (f : Nat) (ih : ∀ f', f' ≤ f → AllR TA tc L n SA ns sc f') (h : ST X TA L s w n SA ns sc i EA ne ec d c p) (hf : 12 * (L.length - s.i) + 4 ≤ f + 1) :
  Calls Tryz.prog 144 #[.agg #[.slice TA n tc, .int .i64 ((i : Nat) : Int), .slice SA ns sc, .slice EA ne ec, .int .i64 ((d : Nat) : Int), .int .i64 ((c : Nat) : Int), .int .i64 ((p : Nat) : Int)], .int .i64 3] w (RLv X TA tc L n SA ns sc w (prodP L (f + 1) s)) := by
 have F0 := Lib.hid (FR.made (tc := tc) h #[(.slice none 0 0), (.int .i64 0), (.slice none 0 0), (.slice none 0 0), (.int .i64 0), (.int .i64 0), (.int .i64 0)])
 have hel := h.el
 have HS := Lib.hid (j4_any (ih f (Nat.le_refl _)) F0.out.st (by omega))
 have g1 := (allG L f).sign s
 obtain ⟨sa, va, hA⟩ : ∃ sa va, signP L f s = (sa, va) := ⟨_, _, rfl⟩
 rw [hA] at HS g1
 obtain ⟨R, hR⟩ : ∃ R, R = prodLoopP L f sa va := ⟨_, rfl⟩
 have hRR : prodP L (f + 1) s = R := by rw [prodP, hA, hR]
 rw [hRR]
 have HR0 := Lib.hid hR
 have hi1 : s.i ≤ sa.i := g1.hi
 have IH := Lib.hid ih
 have HFA := Lib.hid (show 12 * (L.length - sa.i) + 1 ≤ f by omega)
 clear ih hA h g1 hel hR hRR hi1
 go_enter Tryz.func144, Tryz.ntmps144
 go_wp2_with fail
 refine HS.out.mono ?_
 rintro e w1 ⟨v, rfl, ⟨i1, EA1, ne1, ec1, d1, c1, p1, rfl, h1⟩, b1⟩
 have F1 := Lib.hid (F0.out.call b1)
 obtain ⟨⟨r0, r1, r2, r3, r4, r5, r6⟩, ⟨z0, z1, z2, z3, z4, z5, z6⟩, ⟨y0, y1, y2, y3, y4, y5, y6⟩, ⟨x0, x1, x2, x3, x4, x5, x6⟩, hlt0, hlt1⟩ := F1.out.cells
 go_wp2
 obtain ⟨w1', hwS⟩ : ∃ wS, wS = (((((((w1).setCell ⟨w.heap.size, 0, none⟩ (.slice TA n tc)).setCell ⟨w.heap.size, 1, none⟩ (.int .i64 ((i1 : Nat) : Int))).setCell ⟨w.heap.size, 2, none⟩ (.slice SA ns sc)).setCell ⟨w.heap.size, 3, none⟩ (.slice EA1 ne1 ec1)).setCell ⟨w.heap.size, 4, none⟩ (.int .i64 ((d1 : Nat) : Int))).setCell ⟨w.heap.size, 5, none⟩ (.int .i64 ((c1 : Nat) : Int))).setCell ⟨w.heap.size, 6, none⟩ (.int .i64 ((p1 : Nat) : Int)) := ⟨_, rfl⟩
 rw [← hwS]
 have F2 := Lib.hid (F0.out.take b1 h1 hwS)
 have hsz : w1.heap.size = w1'.heap.size := by rw [hwS]; simp [World.setCell]
 try simp only [hsz]
 clear hsz hwS b1 h1
 clear r0 r1 r2 r3 r4 r5 r6 z0 z1 z2 z3 z4 z5 z6 y0 y1 y2 y3 y4 y5 y6 x0 x1 x2 x3 x4 x5 x6 hlt0 hlt1
 clear F1
 go_loopw [6] (fun av wr => JR X TA tc L n SA ns sc w f R (prodLoopP L) av wr) (fun av wr => L.length - curI w.heap.size wr)
 case atStart => exact ⟨f, sa, va, _, _, _, _, _, _, _, Nat.le_refl _, HR0.out, rfl, F2.out, HFA.out⟩
 case round =>
  obtain ⟨f', s', a', ia, EAa, nea, eca, da, ca, pa, hf', hr, rfl, fa, hn⟩ := hrel
  obtain ⟨f', rfl⟩ : ∃ g, f' = g + 1 := ⟨f' - 1, by omega⟩
  have FA := Lib.hid fa
  have hcur := Lib.hid fa.cur
  have HRR := Lib.hid hr
  have HN := Lib.hid hn
  obtain ⟨kd, tx, nm, ps, hnow⟩ : ∃ kd tx nm ps, nowP L s' = ⟨kd, tx, nm, ps⟩ := ⟨_, _, _, _, rfl⟩
  have HNOW := Lib.hid hnow
  clear fa F2 F0 HS hr hnow HR0 HFA hn
  obtain ⟨⟨r0, r1, r2, r3, r4, r5, r6⟩, ⟨z0, z1, z2, z3, z4, z5, z6⟩, ⟨y0, y1, y2, y3, y4, y5, y6⟩, ⟨x0, x1, x2, x3, x4, x5, x6⟩, hlt0, hlt1⟩ := FA.out.cells
  cases hq0 : isP L s' tStar with
  | true =>
   have hlt := isP_lt hq0
   obtain ⟨e1, e2, e3, e4, e5, e6⟩ := FA.out.st.el
   have HB := Lib.hid (fun w i EA ne ec d c p (h' : ST X TA L (advP s') w n SA ns sc i EA ne ec d c p) => j4_any (IH.out f' (by omega)) h' (by have := HN.out; show 12 * (L.length - (s'.i + 1)) + 3 ≤ f'; omega))
   have g2 := (allG L f').sign (advP s')
   obtain ⟨sb, vb, hB⟩ : ∃ sb vb, signP L f' (advP s') = (sb, vb) := ⟨_, _, rfl⟩
   rw [hB] at HB g2
   have h2 := g2.he
   have h3 := g2.hi
   have h4 : (advP s').i = s'.i + 1 := rfl
   have h5 : (advP s').es = s'.es := rfl
   simp only [h4, h5] at h2 h3
   have HBIG := Lib.hid (show sb.es.length + 1 ≤ sb.i from by omega)
   obtain ⟨sd, vd, hC⟩ : ∃ sd vd, putP sb ⟨6, noB, 0, [a', vb], ps⟩ = (sd, vd) := ⟨_, _, rfl⟩
   have hci : sd.i = sb.i := by
    have e : sd = (putP sb ⟨6, noB, 0, [a', vb], ps⟩).1 := by rw [hC]
    rw [e, put_i]
   have HCI := Lib.hid hci
   have HC := Lib.hid hC
   have HX := Lib.hid (show R = prodLoopP L f' sd vd from by rw [HRR.out, prodLoopP]; simp only [hq0, hB, HNOW.out, hC]; rfl)
   have HQ := Lib.hid hq0
   have HLT := Lib.hid hlt
   have HH3 := Lib.hid h3
   have HIA := Lib.hid (show ia ≤ 1000 from by omega)
   clear hlt g2 hB hC h2 h3 h4 h5 hci e1 e2 e3 e4 e5 e6
   clear hq0
   go_wp2_with fail
   refine (lev3s FA.out.st tc HQ.out).mono ?_
   rintro e w2 ⟨rfl, b2⟩
   clear r0 r1 r2 r3 r4 r5 r6 z0 z1 z2 z3 z4 z5 z6 y0 y1 y2 y3 y4 y5 y6 x0 x1 x2 x3 x4 x5 x6 hlt0 hlt1
   have F2 := Lib.hid (FA.out.call b2)
   clear b2
   obtain ⟨⟨r0, r1, r2, r3, r4, r5, r6⟩, ⟨z0, z1, z2, z3, z4, z5, z6⟩, ⟨y0, y1, y2, y3, y4, y5, y6⟩, ⟨x0, x1, x2, x3, x4, x5, x6⟩, hlt0, hlt1⟩ := F2.out.cells
   go_wp2_with fail
   clear r0 r1 r2 r3 r4 r5 r6
   have hS := Lib.hid (show Below w2.heap.size w2 w2.drew ∧ w2.cell? ⟨w.heap.size, 0, none⟩ = some (.slice TA n tc) ∧ w2.cell? ⟨w.heap.size, 1, none⟩ = some (.int .i64 ((ia : Nat) : Int)) ∧ w2.cell? ⟨w.heap.size, 2, none⟩ = some (.slice SA ns sc) ∧ w2.cell? ⟨w.heap.size, 3, none⟩ = some (.slice EAa nea eca) ∧ w2.cell? ⟨w.heap.size, 4, none⟩ = some (.int .i64 ((da : Nat) : Int)) ∧ w2.cell? ⟨w.heap.size, 5, none⟩ = some (.int .i64 ((ca : Nat) : Int)) ∧ w2.cell? ⟨w.heap.size, 6, none⟩ = some (.int .i64 ((pa : Nat) : Int)) from ⟨(Below.refl _ _).drew, cells7 F2.out.bx.k0⟩)
   have HL := Lib.hid (fun W (hW : Below w2.heap.size w2 W) => lev3s (F2.out.st.call hW) tc HQ.out)
   have HNO := Lib.hid (fun W (hW : Below w2.heap.size w2 W) => snow (F2.out.st.call hW) tc HNOW.out)
   go_region_held3 (fun w' => Below w2.heap.size w2 w' ∧ w'.cell? ⟨w.heap.size, 0, none⟩ = some (.slice TA n tc) ∧ w'.cell? ⟨w.heap.size, 1, none⟩ = some (.int .i64 ((ia : Nat) : Int)) ∧ w'.cell? ⟨w.heap.size, 2, none⟩ = some (.slice SA ns sc) ∧ w'.cell? ⟨w.heap.size, 3, none⟩ = some (.slice EAa nea eca) ∧ w'.cell? ⟨w.heap.size, 4, none⟩ = some (.int .i64 ((da : Nat) : Int)) ∧ w'.cell? ⟨w.heap.size, 5, none⟩ = some (.int .i64 ((ca : Nat) : Int)) ∧ w'.cell? ⟨w.heap.size, 6, none⟩ = some (.int .i64 ((pa : Nat) : Int))) (first | with_reducible exact hS.out | assumption | exact keep8 (by assumption) (by assumption))
    (first
     | (go_at_call 177; refine (HL.out _ (And.left (by assumption))).mono ?_; rintro e w3 ⟨rfl, b3⟩)
     | (go_at_call 87; refine (HNO.out _ (And.left (by assumption))).mono ?_; rintro e w3 ⟨rfl, b3⟩))
   all_goals
    rename_i hH
    have F3 := Lib.hid (F2.out.call hH.1)
    clear hH b3 hS HL HNO z0 z1 z2 z3 z4 z5 z6 y0 y1 y2 y3 y4 y5 y6 x0 x1 x2 x3 x4 x5 x6 hlt0 hlt1
    obtain ⟨⟨r0, r1, r2, r3, r4, r5, r6⟩, ⟨z0, z1, z2, z3, z4, z5, z6⟩, ⟨y0, y1, y2, y3, y4, y5, y6⟩, ⟨x0, x1, x2, x3, x4, x5, x6⟩, hlt0, hlt1⟩ := F3.out.cells
    have hia : ia ≤ 1000 := HIA.out
    go_wp2_with fail
    obtain ⟨i4, hi4⟩ : ∃ i4, i4 = ia + 1 := ⟨_, rfl⟩
    obtain ⟨w4, hw4⟩ : ∃ w4, w4 = w3.setCell ⟨w.heap.size, 1, none⟩ (.int .i64 ((ia : Int) + 1)) := ⟨_, rfl⟩
    have F4 := Lib.hid (show FR X TA L n SA ns sc tc w w4 (advP s') i4 EAa nea eca da ca pa #[(.slice none 0 0), (.int .i64 0), (.slice none 0 0), (.slice none 0 0), (.int .i64 0), (.int .i64 0), (.int .i64 0)] [] from by rw [hw4]; exact F3.out.adv HLT.out hi4)
    have h4i : ((ia : Int) + 1) = ((i4 : Nat) : Int) := by rw [hi4]; rfl
    try rw [← hw4]
    simp only [h4i]
    clear r0 r1 r2 r3 r4 r5 r6 z0 z1 z2 z3 z4 z5 z6 y0 y1 y2 y3 y4 y5 y6 x0 x1 x2 x3 x4 x5 x6 hlt0 hlt1
    clear hw4 h4i hi4 hia
    refine (HB.out _ _ _ _ _ _ _ _ F4.out.st).mono ?_
    rintro e w5 ⟨v, rfl, ⟨i5, EA5, ne5, ec5, d5, c5, p5, rfl, h5⟩, b5⟩
    have F5 := Lib.hid (F4.out.call b5)
    obtain ⟨⟨r0, r1, r2, r3, r4, r5, r6⟩, ⟨z0, z1, z2, z3, z4, z5, z6⟩, ⟨y0, y1, y2, y3, y4, y5, y6⟩, ⟨x0, x1, x2, x3, x4, x5, x6⟩, hlt0, hlt1⟩ := F5.out.cells
    go_wp2_with fail
    obtain ⟨w6, hwS⟩ : ∃ wS, wS = (((((((w5).setCell ⟨w.heap.size, 0, none⟩ (.slice TA n tc)).setCell ⟨w.heap.size, 1, none⟩ (.int .i64 ((i5 : Nat) : Int))).setCell ⟨w.heap.size, 2, none⟩ (.slice SA ns sc)).setCell ⟨w.heap.size, 3, none⟩ (.slice EA5 ne5 ec5)).setCell ⟨w.heap.size, 4, none⟩ (.int .i64 ((d5 : Nat) : Int))).setCell ⟨w.heap.size, 5, none⟩ (.int .i64 ((c5 : Nat) : Int))).setCell ⟨w.heap.size, 6, none⟩ (.int .i64 ((p5 : Nat) : Int)) := ⟨_, rfl⟩
    rw [← hwS]
    have F6 := Lib.hid (F4.out.take b5 h5 hwS)
    have hsz : w5.heap.size = w6.heap.size := by rw [hwS]; simp [World.setCell]
    try simp only [hsz]
    clear hsz hwS b5 h5
    clear r0 r1 r2 r3 r4 r5 r6 z0 z1 z2 z3 z4 z5 z6 y0 y1 y2 y3 y4 y5 y6 x0 x1 x2 x3 x4 x5 x6 hlt0 hlt1
    clear F5
    refine (sput ⟨6, noB, 0, [a', vb], ps⟩ (some ⟨w6.heap.size, 0, none⟩) 2 2 (st_args F6.out.st _) tc (rargs2 F6.out.st a' vb) HBIG.out).mono ?_
    rintro e w7 ⟨v, rfl, h7, b7⟩
    rw [HC.out] at h7
    obtain ⟨i7, EA7, ne7, ec7, d7, c7, p7, rfl, h7⟩ := h7
    try simp only [HC.out]
    have F7 := Lib.hid (F6.out.alloc (.cells #[.int .i64 ((a' : Nat) : Int), .int .i64 ((vb : Nat) : Int)] 3))
    have F8 := Lib.hid (F7.out.call b7)
    obtain ⟨⟨r0, r1, r2, r3, r4, r5, r6⟩, ⟨z0, z1, z2, z3, z4, z5, z6⟩, ⟨y0, y1, y2, y3, y4, y5, y6⟩, ⟨x0, x1, x2, x3, x4, x5, x6⟩, hlt0, hlt1⟩ := F8.out.cells
    go_wp2_with fail
    obtain ⟨w9, hwS⟩ : ∃ wS, wS = (((((((w7).setCell ⟨w.heap.size, 0, none⟩ (.slice TA n tc)).setCell ⟨w.heap.size, 1, none⟩ (.int .i64 ((i7 : Nat) : Int))).setCell ⟨w.heap.size, 2, none⟩ (.slice SA ns sc)).setCell ⟨w.heap.size, 3, none⟩ (.slice EA7 ne7 ec7)).setCell ⟨w.heap.size, 4, none⟩ (.int .i64 ((d7 : Nat) : Int))).setCell ⟨w.heap.size, 5, none⟩ (.int .i64 ((c7 : Nat) : Int))).setCell ⟨w.heap.size, 6, none⟩ (.int .i64 ((p7 : Nat) : Int)) := ⟨_, rfl⟩
    rw [← hwS]
    have F9 := Lib.hid (F7.out.take b7 h7 hwS)
    have hsz : w7.heap.size = w9.heap.size := by rw [hwS]; simp [World.setCell]
    try simp only [hsz]
    clear hsz hwS b7 h7
    clear r0 r1 r2 r3 r4 r5 r6 z0 z1 z2 z3 z4 z5 z6 y0 y1 y2 y3 y4 y5 y6 x0 x1 x2 x3 x4 x5 x6 hlt0 hlt1
    clear F8
    refine ⟨⟨f', sd, vd, _, _, _, _, _, _, _, by omega, HX.out, rfl, F9.out.drop, by have := HN.out; have := HCI.out; have := HH3.out; have := HLT.out; omega⟩, ?_⟩
    have e1 := F9.out.cur
    have e2 := hcur.out
    have e3 := HCI.out
    have e4 := HH3.out
    have e5 := HLT.out
    simp only [e1, e2]
    omega
  | false =>
   cases hq1 : isP L s' tAt with
   | true =>
    have HQ0 := Lib.hid hq0
    have hlt := isP_lt hq1
    obtain ⟨e1, e2, e3, e4, e5, e6⟩ := FA.out.st.el
    have HB := Lib.hid (fun w i EA ne ec d c p (h' : ST X TA L (advP s') w n SA ns sc i EA ne ec d c p) => j4_any (IH.out f' (by omega)) h' (by have := HN.out; show 12 * (L.length - (s'.i + 1)) + 3 ≤ f'; omega))
    have g2 := (allG L f').sign (advP s')
    obtain ⟨sb, vb, hB⟩ : ∃ sb vb, signP L f' (advP s') = (sb, vb) := ⟨_, _, rfl⟩
    rw [hB] at HB g2
    have h2 := g2.he
    have h3 := g2.hi
    have h4 : (advP s').i = s'.i + 1 := rfl
    have h5 : (advP s').es = s'.es := rfl
    simp only [h4, h5] at h2 h3
    have HBIG := Lib.hid (show sb.es.length + 1 ≤ sb.i from by omega)
    obtain ⟨sd, vd, hC⟩ : ∃ sd vd, putP sb ⟨7, noB, 0, [a', vb], ps⟩ = (sd, vd) := ⟨_, _, rfl⟩
    have hci : sd.i = sb.i := by
     have e : sd = (putP sb ⟨7, noB, 0, [a', vb], ps⟩).1 := by rw [hC]
     rw [e, put_i]
    have HCI := Lib.hid hci
    have HC := Lib.hid hC
    have HX := Lib.hid (show R = prodLoopP L f' sd vd from by rw [HRR.out, prodLoopP]; simp only [hq0, hq1, hB, HNOW.out, hC]; rfl)
    have HQ := Lib.hid hq1
    have HLT := Lib.hid hlt
    have HH3 := Lib.hid h3
    have HIA := Lib.hid (show ia ≤ 1000 from by omega)
    clear hlt g2 hB hC h2 h3 h4 h5 hci e1 e2 e3 e4 e5 e6
    clear hq0 hq1
    go_wp2_with fail
    refine (lev3a FA.out.st tc HQ0.out HQ.out).mono ?_
    rintro e w2 ⟨rfl, b2⟩
    clear r0 r1 r2 r3 r4 r5 r6 z0 z1 z2 z3 z4 z5 z6 y0 y1 y2 y3 y4 y5 y6 x0 x1 x2 x3 x4 x5 x6 hlt0 hlt1
    have F2 := Lib.hid (FA.out.call b2)
    clear b2
    obtain ⟨⟨r0, r1, r2, r3, r4, r5, r6⟩, ⟨z0, z1, z2, z3, z4, z5, z6⟩, ⟨y0, y1, y2, y3, y4, y5, y6⟩, ⟨x0, x1, x2, x3, x4, x5, x6⟩, hlt0, hlt1⟩ := F2.out.cells
    go_wp2_with fail
    clear r0 r1 r2 r3 r4 r5 r6
    have hS := Lib.hid (show Below w2.heap.size w2 w2.drew ∧ w2.cell? ⟨w.heap.size, 0, none⟩ = some (.slice TA n tc) ∧ w2.cell? ⟨w.heap.size, 1, none⟩ = some (.int .i64 ((ia : Nat) : Int)) ∧ w2.cell? ⟨w.heap.size, 2, none⟩ = some (.slice SA ns sc) ∧ w2.cell? ⟨w.heap.size, 3, none⟩ = some (.slice EAa nea eca) ∧ w2.cell? ⟨w.heap.size, 4, none⟩ = some (.int .i64 ((da : Nat) : Int)) ∧ w2.cell? ⟨w.heap.size, 5, none⟩ = some (.int .i64 ((ca : Nat) : Int)) ∧ w2.cell? ⟨w.heap.size, 6, none⟩ = some (.int .i64 ((pa : Nat) : Int)) from ⟨(Below.refl _ _).drew, cells7 F2.out.bx.k0⟩)
    have HL := Lib.hid (fun W (hW : Below w2.heap.size w2 W) => lev3a (F2.out.st.call hW) tc HQ0.out HQ.out)
    have HNO := Lib.hid (fun W (hW : Below w2.heap.size w2 W) => snow (F2.out.st.call hW) tc HNOW.out)
    go_region_held3 (fun w' => Below w2.heap.size w2 w' ∧ w'.cell? ⟨w.heap.size, 0, none⟩ = some (.slice TA n tc) ∧ w'.cell? ⟨w.heap.size, 1, none⟩ = some (.int .i64 ((ia : Nat) : Int)) ∧ w'.cell? ⟨w.heap.size, 2, none⟩ = some (.slice SA ns sc) ∧ w'.cell? ⟨w.heap.size, 3, none⟩ = some (.slice EAa nea eca) ∧ w'.cell? ⟨w.heap.size, 4, none⟩ = some (.int .i64 ((da : Nat) : Int)) ∧ w'.cell? ⟨w.heap.size, 5, none⟩ = some (.int .i64 ((ca : Nat) : Int)) ∧ w'.cell? ⟨w.heap.size, 6, none⟩ = some (.int .i64 ((pa : Nat) : Int))) (first | with_reducible exact hS.out | assumption | exact keep8 (by assumption) (by assumption))
     (first
      | (go_at_call 177; refine (HL.out _ (And.left (by assumption))).mono ?_; rintro e w3 ⟨rfl, b3⟩)
      | (go_at_call 87; refine (HNO.out _ (And.left (by assumption))).mono ?_; rintro e w3 ⟨rfl, b3⟩))
    all_goals
     rename_i hH
     have F3 := Lib.hid (F2.out.call hH.1)
     clear hH b3 hS HL HNO z0 z1 z2 z3 z4 z5 z6 y0 y1 y2 y3 y4 y5 y6 x0 x1 x2 x3 x4 x5 x6 hlt0 hlt1
     obtain ⟨⟨r0, r1, r2, r3, r4, r5, r6⟩, ⟨z0, z1, z2, z3, z4, z5, z6⟩, ⟨y0, y1, y2, y3, y4, y5, y6⟩, ⟨x0, x1, x2, x3, x4, x5, x6⟩, hlt0, hlt1⟩ := F3.out.cells
     have hia : ia ≤ 1000 := HIA.out
     go_wp2_with fail
     obtain ⟨i4, hi4⟩ : ∃ i4, i4 = ia + 1 := ⟨_, rfl⟩
     obtain ⟨w4, hw4⟩ : ∃ w4, w4 = w3.setCell ⟨w.heap.size, 1, none⟩ (.int .i64 ((ia : Int) + 1)) := ⟨_, rfl⟩
     have F4 := Lib.hid (show FR X TA L n SA ns sc tc w w4 (advP s') i4 EAa nea eca da ca pa #[(.slice none 0 0), (.int .i64 0), (.slice none 0 0), (.slice none 0 0), (.int .i64 0), (.int .i64 0), (.int .i64 0)] [] from by rw [hw4]; exact F3.out.adv HLT.out hi4)
     have h4i : ((ia : Int) + 1) = ((i4 : Nat) : Int) := by rw [hi4]; rfl
     try rw [← hw4]
     simp only [h4i]
     clear r0 r1 r2 r3 r4 r5 r6 z0 z1 z2 z3 z4 z5 z6 y0 y1 y2 y3 y4 y5 y6 x0 x1 x2 x3 x4 x5 x6 hlt0 hlt1
     clear hw4 h4i hi4 hia
     refine (HB.out _ _ _ _ _ _ _ _ F4.out.st).mono ?_
     rintro e w5 ⟨v, rfl, ⟨i5, EA5, ne5, ec5, d5, c5, p5, rfl, h5⟩, b5⟩
     have F5 := Lib.hid (F4.out.call b5)
     obtain ⟨⟨r0, r1, r2, r3, r4, r5, r6⟩, ⟨z0, z1, z2, z3, z4, z5, z6⟩, ⟨y0, y1, y2, y3, y4, y5, y6⟩, ⟨x0, x1, x2, x3, x4, x5, x6⟩, hlt0, hlt1⟩ := F5.out.cells
     go_wp2_with fail
     obtain ⟨w6, hwS⟩ : ∃ wS, wS = (((((((w5).setCell ⟨w.heap.size, 0, none⟩ (.slice TA n tc)).setCell ⟨w.heap.size, 1, none⟩ (.int .i64 ((i5 : Nat) : Int))).setCell ⟨w.heap.size, 2, none⟩ (.slice SA ns sc)).setCell ⟨w.heap.size, 3, none⟩ (.slice EA5 ne5 ec5)).setCell ⟨w.heap.size, 4, none⟩ (.int .i64 ((d5 : Nat) : Int))).setCell ⟨w.heap.size, 5, none⟩ (.int .i64 ((c5 : Nat) : Int))).setCell ⟨w.heap.size, 6, none⟩ (.int .i64 ((p5 : Nat) : Int)) := ⟨_, rfl⟩
     rw [← hwS]
     have F6 := Lib.hid (F4.out.take b5 h5 hwS)
     have hsz : w5.heap.size = w6.heap.size := by rw [hwS]; simp [World.setCell]
     try simp only [hsz]
     clear hsz hwS b5 h5
     clear r0 r1 r2 r3 r4 r5 r6 z0 z1 z2 z3 z4 z5 z6 y0 y1 y2 y3 y4 y5 y6 x0 x1 x2 x3 x4 x5 x6 hlt0 hlt1
     clear F5
     refine (sput ⟨7, noB, 0, [a', vb], ps⟩ (some ⟨w6.heap.size, 0, none⟩) 2 2 (st_args F6.out.st _) tc (rargs2 F6.out.st a' vb) HBIG.out).mono ?_
     rintro e w7 ⟨v, rfl, h7, b7⟩
     rw [HC.out] at h7
     obtain ⟨i7, EA7, ne7, ec7, d7, c7, p7, rfl, h7⟩ := h7
     try simp only [HC.out]
     have F7 := Lib.hid (F6.out.alloc (.cells #[.int .i64 ((a' : Nat) : Int), .int .i64 ((vb : Nat) : Int)] 3))
     have F8 := Lib.hid (F7.out.call b7)
     obtain ⟨⟨r0, r1, r2, r3, r4, r5, r6⟩, ⟨z0, z1, z2, z3, z4, z5, z6⟩, ⟨y0, y1, y2, y3, y4, y5, y6⟩, ⟨x0, x1, x2, x3, x4, x5, x6⟩, hlt0, hlt1⟩ := F8.out.cells
     go_wp2_with fail
     obtain ⟨w9, hwS⟩ : ∃ wS, wS = (((((((w7).setCell ⟨w.heap.size, 0, none⟩ (.slice TA n tc)).setCell ⟨w.heap.size, 1, none⟩ (.int .i64 ((i7 : Nat) : Int))).setCell ⟨w.heap.size, 2, none⟩ (.slice SA ns sc)).setCell ⟨w.heap.size, 3, none⟩ (.slice EA7 ne7 ec7)).setCell ⟨w.heap.size, 4, none⟩ (.int .i64 ((d7 : Nat) : Int))).setCell ⟨w.heap.size, 5, none⟩ (.int .i64 ((c7 : Nat) : Int))).setCell ⟨w.heap.size, 6, none⟩ (.int .i64 ((p7 : Nat) : Int)) := ⟨_, rfl⟩
     rw [← hwS]
     have F9 := Lib.hid (F7.out.take b7 h7 hwS)
     have hsz : w7.heap.size = w9.heap.size := by rw [hwS]; simp [World.setCell]
     try simp only [hsz]
     clear hsz hwS b7 h7
     clear r0 r1 r2 r3 r4 r5 r6 z0 z1 z2 z3 z4 z5 z6 y0 y1 y2 y3 y4 y5 y6 x0 x1 x2 x3 x4 x5 x6 hlt0 hlt1
     clear F8
     refine ⟨⟨f', sd, vd, _, _, _, _, _, _, _, by omega, HX.out, rfl, F9.out.drop, by have := HN.out; have := HCI.out; have := HH3.out; have := HLT.out; omega⟩, ?_⟩
     have e1 := F9.out.cur
     have e2 := hcur.out
     have e3 := HCI.out
     have e4 := HH3.out
     have e5 := HLT.out
     simp only [e1, e2]
     omega
   | false =>
    have HR := Lib.hid (show R = (s', a') from by rw [HRR.out, prodLoopP]; simp only [hq0, hq1]; rfl)
    have HQ0 := Lib.hid hq0
    have HQ := Lib.hid hq1
    clear hq0 hq1
    go_wp2_with fail
    refine (lev3n FA.out.st tc HQ0.out HQ.out).mono ?_
    rintro e w2 ⟨rfl, b2⟩
    clear r0 r1 r2 r3 r4 r5 r6 z0 z1 z2 z3 z4 z5 z6 y0 y1 y2 y3 y4 y5 y6 x0 x1 x2 x3 x4 x5 x6 hlt0 hlt1
    have F2 := Lib.hid (FA.out.call b2)
    clear b2
    obtain ⟨⟨r0, r1, r2, r3, r4, r5, r6⟩, ⟨z0, z1, z2, z3, z4, z5, z6⟩, ⟨y0, y1, y2, y3, y4, y5, y6⟩, ⟨x0, x1, x2, x3, x4, x5, x6⟩, hlt0, hlt1⟩ := F2.out.cells
    go_wp2
    obtain ⟨wS, hwS⟩ : ∃ wS, wS = (((((((w2).setCell ⟨w.heap.size + 1, 0, none⟩ (.slice TA n tc)).setCell ⟨w.heap.size + 1, 1, none⟩ (.int .i64 ((ia : Nat) : Int))).setCell ⟨w.heap.size + 1, 2, none⟩ (.slice SA ns sc)).setCell ⟨w.heap.size + 1, 3, none⟩ (.slice EAa nea eca)).setCell ⟨w.heap.size + 1, 4, none⟩ (.int .i64 ((da : Nat) : Int))).setCell ⟨w.heap.size + 1, 5, none⟩ (.int .i64 ((ca : Nat) : Int))).setCell ⟨w.heap.size + 1, 6, none⟩ (.int .i64 ((pa : Nat) : Int)) := ⟨_, rfl⟩
    rw [← hwS]
    obtain ⟨f1, f2, f3⟩ := F2.out.fin (Below.refl _ _) F2.out.st hwS
    obtain ⟨g0, g1, g2, g3, g4, g5, g6⟩ := cells7 f1
    clear hwS f1
    exact bodyPost_ret (v := .tuple #[.agg #[.slice TA n tc, .int .i64 ((ia : Nat) : Int), .slice SA ns sc, .slice EAa nea eca, .int .i64 ((da : Nat) : Int), .int .i64 ((ca : Nat) : Int), .int .i64 ((pa : Nat) : Int)], .int .i64 ((a' : Nat) : Int)]) (by simp [results, Tryz.results144, go_sem, g0, g1, g2, g3, g4, g5, g6]) rfl ⟨_, by rw [HR.out], by rw [HR.out]; exact f2.ro, f3⟩
end
end Go.Proofs.YtghlnncfigkkaaaGreatDoor
namespace Go.Proofs.YtghlnncfigkkaaaGreatDoor
set_option linter.unusedVariables false
open Go.RowKit
section
variable {X Y : Nat → Prop} {TA SA : Option Addr} {tc n ns sc : Nat} {L : List Tok} {s s' : PS} {w : World} {i ne ec d c p : Nat} {EA : Option Addr}
theorem ratom_step (f : Nat) (ih : ∀ f', f' ≤ f → AllR TA tc L n SA ns sc f') (h : ST X TA L s w n SA ns sc i EA ne ec d c p) (hf : 12 * (L.length - s.i) + 1 ≤ f + 1) :
  Calls Tryz.prog 202 #[.agg #[.slice TA n tc, .int .i64 ((i : Nat) : Int), .slice SA ns sc, .slice EA ne ec, .int .i64 ((d : Nat) : Int), .int .i64 ((c : Nat) : Int), .int .i64 ((p : Nat) : Int)]] w (RLv X TA tc L n SA ns sc w (atomP L (f + 1) s)) := by
 cases herr : s.err with
 | some x => exact ratom_err f ih h hf x herr
 | none =>
  by_cases h2 : (nowP L s).kind = 2
  ·exact ratom_num f ih h hf herr h2
  by_cases h1 : (nowP L s).kind = 1
  ·exact ratom_name f ih h hf herr h1
  by_cases hd : s.deep = 32
  ·by_cases hn : (callP (nowP L s)).2 = 0
   ·cases hq : isP L s tOpen with
    | false => exact ratom_bad f ih h hf herr h2 h1 hn hq
    | true => exact ratom_deepP f ih h hf herr h2 h1 hn hq hd
   ·exact ratom_deepC f ih h hf herr h2 h1 hn hd
  ·by_cases hn : (callP (nowP L s)).2 = 0
   ·cases hq : isP L s tOpen with
    | false => exact ratom_bad f ih h hf herr h2 h1 hn hq
    | true => exact ratom_paren f ih h hf herr h2 h1 hn hq hd
   ·exact ratom_call f ih h hf herr h2 h1 hn hd
end
theorem allR (TA : Option Addr) (tc : Nat) (L : List Tok) (n : Nat) (SA : Option Addr) (ns sc : Nat) : ∀ f, AllR TA tc L n SA ns sc f := by
 intro f
 induction f using Nat.strongRecOn with
 | ind f ih =>
  cases f with
  | zero => exact ⟨fun _ hf => by omega, fun _ hf => by omega, fun _ hf => by omega, fun _ hf => by omega, fun _ hf => by omega⟩
  | succ f =>
   have ih' : ∀ f', f' ≤ f → AllR TA tc L n SA ns sc f' := fun f' hf' => ih f' (by omega)
   exact ⟨fun h hf => j1_step f ih' h hf, fun h hf => j2_step f ih' h hf, fun h hf => j3_step f ih' h hf, fun h hf => rsign_step f ih' h hf, fun h hf => ratom_step f ih' h hf⟩
end Go.Proofs.YtghlnncfigkkaaaGreatDoor
