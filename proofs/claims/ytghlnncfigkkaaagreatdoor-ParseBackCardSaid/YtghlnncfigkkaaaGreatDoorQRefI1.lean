/-
  The reference's statements: early answers; an output. The reference's statements: a let.
-/
import Derived.Test.YtghlnncfigkkaaaGreatDoorQRefF2
import Derived.Test.YtghlnncfigkkaaaGreatDoorQRefL
namespace Go.Proofs.YtghlnncfigkkaaaGreatDoor
set_option linter.unusedVariables false
set_option linter.unusedSimpArgs false
open Go.RowKit
attribute [local go_sem ↓] tok_field3 tok_field0
section
variable {X Y : Nat → Prop} {TA SA : Option Addr} {tc n ns sc : Nat} {L : List Tok} {s s' : PS} {w : World} {i ne ec d c p : Nat} {EA : Option Addr}
set_option maxRecDepth 100000 in
set_option maxHeartbeats 4000000 in
theorem rstmt_full (f : Nat) (h : ST X TA L s w n SA ns sc i EA ne ec d c p) (hf : 12 * L.length + 20 ≤ f) (hl : s.ss.length = 64) :
  Calls Tryz.prog 88 #[.agg #[.slice TA n tc, .int .i64 ((i : Nat) : Int), .slice SA ns sc, .slice EA ne ec, .int .i64 ((d : Nat) : Int), .int .i64 ((c : Nat) : Int), .int .i64 ((p : Nat) : Int)]] w (RSt X TA tc L n w (rstmtP L f s)) := by
 have F0 := Lib.hid (FR.made (tc := tc) h #[(.slice none 0 0), (.int .i64 0), (.slice none 0 0), (.slice none 0 0), (.int .i64 0), (.int .i64 0), (.int .i64 0)])
 obtain ⟨kd, tx, nm, ps, hnow⟩ : ∃ kd tx nm ps, nowP L s = ⟨kd, tx, nm, ps⟩ := ⟨_, _, _, _, rfl⟩
 obtain ⟨e1, e2, e3, e4, e5, e6⟩ := h.el
 have hens := h.ens
 have hsl := h.rr.sl
 have HNOW := Lib.hid hnow
 have HSA0 := Lib.hid h.sa
 have HR := Lib.hid (show rstmtP L f s = failP L s 5 from by unfold rstmtP; exact if_pos hl)
 have q64 : decide ((64 : Int) ≤ (ns : Int)) = true := by rw [decide_eq_true_eq]; omega
 clear h hf hnow e1 e2 e3 e4 e5 e6 hens hsl hl
 go_enter Tryz.func88, Tryz.ntmps88
 go_wp2_with fail
 refine (snow F0.out.st tc HNOW.out).mono ?_
 rintro e w1 ⟨rfl, b1⟩
 have F1 := Lib.hid (F0.out.call b1)
 clear b1
 obtain ⟨⟨r0, r1, r2, r3, r4, r5, r6⟩, ⟨z0, z1, z2, z3, z4, z5, z6⟩, ⟨y0, y1, y2, y3, y4, y5, y6⟩, ⟨x0, x1, x2, x3, x4, x5, x6⟩, hlt0, hlt1⟩ := F1.out.cells
 go_wp2_with fail
 obtain ⟨w2, hw2⟩ : ∃ w2, w2 = w1.alloc (.cells #[.int .i64 0, .int .i64 0, .string ⟨#[]⟩, (.slice none 0 0), .int .i64 0, .int .i64 ((ps : Nat) : Int)] 93) := ⟨_, rfl⟩
 have F2 := Lib.hid (show FR X TA L n SA ns sc tc w w2 s i EA ne ec d c p #[(.slice none 0 0), (.int .i64 0), (.slice none 0 0), (.slice none 0 0), (.int .i64 0), (.int .i64 0), (.int .i64 0)] ((w1.heap.size, .cells #[.int .i64 0, .int .i64 0, .string ⟨#[]⟩, (.slice none 0 0), .int .i64 0, .int .i64 ((ps : Nat) : Int)] 93) :: []) from by rw [hw2]; exact F1.out.alloc _)
 have HSA := Lib.hid (show ∀ k, blk SA = some k → k ≠ w1.heap.size from fun k hk => by have h1 := HSA0.out k hk; have h2 := F1.out.bx.lt; omega)
 try rw [← hw2]
 clear r0 r1 r2 r3 r4 r5 r6 z0 z1 z2 z3 z4 z5 z6 y0 y1 y2 y3 y4 y5 y6 x0 x1 x2 x3 x4 x5 x6 hlt0 hlt1
 clear hw2 F1
 refine (sfail F2.out.st tc 5 (by decide)).mono ?_
 rintro e w9 ⟨v, rfl, ⟨i9, EA9, ne9, ec9, d9, c9, p9, rfl, h9⟩, b9⟩
 have F9 := Lib.hid (F2.out.call b9)
 obtain ⟨⟨r0, r1, r2, r3, r4, r5, r6⟩, ⟨z0, z1, z2, z3, z4, z5, z6⟩, ⟨y0, y1, y2, y3, y4, y5, y6⟩, ⟨x0, x1, x2, x3, x4, x5, x6⟩, hlt0, hlt1⟩ := F9.out.cells
 go_wp2
 obtain ⟨wS, hwS⟩ : ∃ wS, wS = (((((((w9).setCell ⟨w.heap.size + 1, 0, none⟩ (.slice TA n tc)).setCell ⟨w.heap.size + 1, 1, none⟩ (.int .i64 ((i9 : Nat) : Int))).setCell ⟨w.heap.size + 1, 2, none⟩ (.slice SA ns sc)).setCell ⟨w.heap.size + 1, 3, none⟩ (.slice EA9 ne9 ec9)).setCell ⟨w.heap.size + 1, 4, none⟩ (.int .i64 ((d9 : Nat) : Int))).setCell ⟨w.heap.size + 1, 5, none⟩ (.int .i64 ((c9 : Nat) : Int))).setCell ⟨w.heap.size + 1, 6, none⟩ (.int .i64 ((p9 : Nat) : Int)) := ⟨_, rfl⟩
 rw [← hwS]
 obtain ⟨f1, f2, f3⟩ := F2.out.fin b9 h9 hwS
 obtain ⟨g0, g1, g2, g3, g4, g5, g6⟩ := cells7 f1
 clear hwS f1
 exact bodyPost_ret (v := .agg #[.slice TA n tc, .int .i64 ((i9 : Nat) : Int), .slice SA ns sc, .slice EA9 ne9 ec9, .int .i64 ((d9 : Nat) : Int), .int .i64 ((c9 : Nat) : Int), .int .i64 ((p9 : Nat) : Int)]) (by simp [results, Tryz.results88, go_sem, g0, g1, g2, g3, g4, g5, g6]) rfl ⟨_, _, _, _, rfl, by rw [HR.out]; exact f2.ro, f3⟩
set_option maxRecDepth 100000 in
set_option maxHeartbeats 4000000 in
theorem rstmt_none (f : Nat) (h : ST X TA L s w n SA ns sc i EA ne ec d c p) (hf : 12 * L.length + 20 ≤ f) (hl : s.ss.length ≠ 64) (hq1 : isP L s tInput = false) (hq2 : isP L s tLet = false) (hq3 : isP L s tOutput = false) :
  Calls Tryz.prog 88 #[.agg #[.slice TA n tc, .int .i64 ((i : Nat) : Int), .slice SA ns sc, .slice EA ne ec, .int .i64 ((d : Nat) : Int), .int .i64 ((c : Nat) : Int), .int .i64 ((p : Nat) : Int)]] w (RSt X TA tc L n w (rstmtP L f s)) := by
 have F0 := Lib.hid (FR.made (tc := tc) h #[(.slice none 0 0), (.int .i64 0), (.slice none 0 0), (.slice none 0 0), (.int .i64 0), (.int .i64 0), (.int .i64 0)])
 obtain ⟨kd, tx, nm, ps, hnow⟩ : ∃ kd tx nm ps, nowP L s = ⟨kd, tx, nm, ps⟩ := ⟨_, _, _, _, rfl⟩
 obtain ⟨e1, e2, e3, e4, e5, e6⟩ := h.el
 have hens := h.ens
 have hsl := h.rr.sl
 have HNOW := Lib.hid hnow
 have HSA0 := Lib.hid h.sa
 have HR := Lib.hid (show rstmtP L f s = failP L s 130 from by unfold rstmtP; rw [if_neg hl]; simp only [hq1, hq2, hq3]; rfl)
 have q64 : decide ((64 : Int) ≤ (ns : Int)) = false := by rw [decide_eq_false_iff_not]; omega
 have HNS := Lib.hid (show ns = s.ss.length ∧ ns < 64 from by omega)
 have HQ1 := Lib.hid hq1
 have HQ2 := Lib.hid hq2
 have HQ3 := Lib.hid hq3
 clear h hf hnow e1 e2 e3 e4 e5 e6 hens hsl hl hq1 hq2 hq3
 go_enter Tryz.func88, Tryz.ntmps88
 go_wp2_with fail
 refine (snow F0.out.st tc HNOW.out).mono ?_
 rintro e w1 ⟨rfl, b1⟩
 have F1 := Lib.hid (F0.out.call b1)
 clear b1
 obtain ⟨⟨r0, r1, r2, r3, r4, r5, r6⟩, ⟨z0, z1, z2, z3, z4, z5, z6⟩, ⟨y0, y1, y2, y3, y4, y5, y6⟩, ⟨x0, x1, x2, x3, x4, x5, x6⟩, hlt0, hlt1⟩ := F1.out.cells
 go_wp2_with fail
 obtain ⟨w2, hw2⟩ : ∃ w2, w2 = w1.alloc (.cells #[.int .i64 0, .int .i64 0, .string ⟨#[]⟩, (.slice none 0 0), .int .i64 0, .int .i64 ((ps : Nat) : Int)] 93) := ⟨_, rfl⟩
 have F2 := Lib.hid (show FR X TA L n SA ns sc tc w w2 s i EA ne ec d c p #[(.slice none 0 0), (.int .i64 0), (.slice none 0 0), (.slice none 0 0), (.int .i64 0), (.int .i64 0), (.int .i64 0)] ((w1.heap.size, .cells #[.int .i64 0, .int .i64 0, .string ⟨#[]⟩, (.slice none 0 0), .int .i64 0, .int .i64 ((ps : Nat) : Int)] 93) :: []) from by rw [hw2]; exact F1.out.alloc _)
 have HSA := Lib.hid (show ∀ k, blk SA = some k → k ≠ w1.heap.size from fun k hk => by have h1 := HSA0.out k hk; have h2 := F1.out.bx.lt; omega)
 try rw [← hw2]
 clear r0 r1 r2 r3 r4 r5 r6 z0 z1 z2 z3 z4 z5 z6 y0 y1 y2 y3 y4 y5 y6 x0 x1 x2 x3 x4 x5 x6 hlt0 hlt1
 clear hw2 F1
 refine (sis F2.out.st tc _ HQ1.out).mono ?_
 rintro e wa ⟨rfl, bq⟩
 have Fa := Lib.hid (F2.out.call bq)
 clear bq F2
 obtain ⟨⟨r0, r1, r2, r3, r4, r5, r6⟩, ⟨z0, z1, z2, z3, z4, z5, z6⟩, ⟨y0, y1, y2, y3, y4, y5, y6⟩, ⟨x0, x1, x2, x3, x4, x5, x6⟩, hlt0, hlt1⟩ := Fa.out.cells
 obtain ⟨⟨o0, o1, o2, o3, o4, o5⟩, ⟨u0, u1, u2, u3, u4⟩, og0, og1⟩ := Fa.out.outc
 go_wp2_with fail
 clear r0 r1 r2 r3 r4 r5 r6 z0 z1 z2 z3 z4 z5 z6 y0 y1 y2 y3 y4 y5 y6 x0 x1 x2 x3 x4 x5 x6 hlt0 hlt1
 clear o0 o1 o2 o3 o4 o5 u0 u1 u2 u3 u4 og0 og1
 refine (sis Fa.out.st tc _ HQ2.out).mono ?_
 rintro e wb ⟨rfl, bq⟩
 have Fb := Lib.hid (Fa.out.call bq)
 clear bq Fa
 obtain ⟨⟨r0, r1, r2, r3, r4, r5, r6⟩, ⟨z0, z1, z2, z3, z4, z5, z6⟩, ⟨y0, y1, y2, y3, y4, y5, y6⟩, ⟨x0, x1, x2, x3, x4, x5, x6⟩, hlt0, hlt1⟩ := Fb.out.cells
 obtain ⟨⟨o0, o1, o2, o3, o4, o5⟩, ⟨u0, u1, u2, u3, u4⟩, og0, og1⟩ := Fb.out.outc
 go_wp2_with fail
 clear r0 r1 r2 r3 r4 r5 r6 z0 z1 z2 z3 z4 z5 z6 y0 y1 y2 y3 y4 y5 y6 x0 x1 x2 x3 x4 x5 x6 hlt0 hlt1
 clear o0 o1 o2 o3 o4 o5 u0 u1 u2 u3 u4 og0 og1
 refine (sis Fb.out.st tc _ HQ3.out).mono ?_
 rintro e w5 ⟨rfl, bq⟩
 have F5 := Lib.hid (Fb.out.call bq)
 clear bq Fb
 obtain ⟨⟨r0, r1, r2, r3, r4, r5, r6⟩, ⟨z0, z1, z2, z3, z4, z5, z6⟩, ⟨y0, y1, y2, y3, y4, y5, y6⟩, ⟨x0, x1, x2, x3, x4, x5, x6⟩, hlt0, hlt1⟩ := F5.out.cells
 obtain ⟨⟨o0, o1, o2, o3, o4, o5⟩, ⟨u0, u1, u2, u3, u4⟩, og0, og1⟩ := F5.out.outc
 go_wp2_with fail
 clear r0 r1 r2 r3 r4 r5 r6 z0 z1 z2 z3 z4 z5 z6 y0 y1 y2 y3 y4 y5 y6 x0 x1 x2 x3 x4 x5 x6 hlt0 hlt1
 clear o0 o1 o2 o3 o4 o5 u0 u1 u2 u3 u4 og0 og1
 refine (sfail F5.out.st tc 130 (by decide)).mono ?_
 rintro e w9 ⟨v, rfl, ⟨i9, EA9, ne9, ec9, d9, c9, p9, rfl, h9⟩, b9⟩
 have F9 := Lib.hid (F5.out.call b9)
 obtain ⟨⟨r0, r1, r2, r3, r4, r5, r6⟩, ⟨z0, z1, z2, z3, z4, z5, z6⟩, ⟨y0, y1, y2, y3, y4, y5, y6⟩, ⟨x0, x1, x2, x3, x4, x5, x6⟩, hlt0, hlt1⟩ := F9.out.cells
 go_wp2
 obtain ⟨wS, hwS⟩ : ∃ wS, wS = (((((((w9).setCell ⟨w.heap.size + 1, 0, none⟩ (.slice TA n tc)).setCell ⟨w.heap.size + 1, 1, none⟩ (.int .i64 ((i9 : Nat) : Int))).setCell ⟨w.heap.size + 1, 2, none⟩ (.slice SA ns sc)).setCell ⟨w.heap.size + 1, 3, none⟩ (.slice EA9 ne9 ec9)).setCell ⟨w.heap.size + 1, 4, none⟩ (.int .i64 ((d9 : Nat) : Int))).setCell ⟨w.heap.size + 1, 5, none⟩ (.int .i64 ((c9 : Nat) : Int))).setCell ⟨w.heap.size + 1, 6, none⟩ (.int .i64 ((p9 : Nat) : Int)) := ⟨_, rfl⟩
 rw [← hwS]
 obtain ⟨f1, f2, f3⟩ := F5.out.fin b9 h9 hwS
 obtain ⟨g0, g1, g2, g3, g4, g5, g6⟩ := cells7 f1
 clear hwS f1
 exact bodyPost_ret (v := .agg #[.slice TA n tc, .int .i64 ((i9 : Nat) : Int), .slice SA ns sc, .slice EA9 ne9 ec9, .int .i64 ((d9 : Nat) : Int), .int .i64 ((c9 : Nat) : Int), .int .i64 ((p9 : Nat) : Int)]) (by simp [results, Tryz.results88, go_sem, g0, g1, g2, g3, g4, g5, g6]) rfl ⟨_, _, _, _, rfl, by rw [HR.out]; exact f2.ro, f3⟩
set_option maxRecDepth 100000 in
set_option maxHeartbeats 4000000 in
theorem rstmt_out (f : Nat) (h : ST X TA L s w n SA ns sc i EA ne ec d c p) (hf : 12 * L.length + 20 ≤ f) (hl : s.ss.length ≠ 64) (hq1 : isP L s tInput = false) (hq2 : isP L s tLet = false) (hq3 : isP L s tOutput = true) :
  Calls Tryz.prog 88 #[.agg #[.slice TA n tc, .int .i64 ((i : Nat) : Int), .slice SA ns sc, .slice EA ne ec, .int .i64 ((d : Nat) : Int), .int .i64 ((c : Nat) : Int), .int .i64 ((p : Nat) : Int)]] w (RSt X TA tc L n w (rstmtP L f s)) := by
 have F0 := Lib.hid (FR.made (tc := tc) h #[(.slice none 0 0), (.int .i64 0), (.slice none 0 0), (.slice none 0 0), (.int .i64 0), (.int .i64 0), (.int .i64 0)])
 obtain ⟨kd, tx, nm, ps, hnow⟩ : ∃ kd tx nm ps, nowP L s = ⟨kd, tx, nm, ps⟩ := ⟨_, _, _, _, rfl⟩
 obtain ⟨e1, e2, e3, e4, e5, e6⟩ := h.el
 have hens := h.ens
 have hsl := h.rr.sl
 have HNOW := Lib.hid hnow
 have HSA0 := Lib.hid h.sa
 have q64 : decide ((64 : Int) ≤ (ns : Int)) = false := by rw [decide_eq_false_iff_not]; omega
 have HNS := Lib.hid (show ns = s.ss.length ∧ ns < 64 from by omega)
 obtain ⟨sm, vm, hM⟩ : ∃ sm vm, nameP L (advP s) = (sm, vm) := ⟨_, _, rfl⟩
 obtain ⟨sz, hz⟩ : ∃ sz, wantP L sm tSemi = sz := ⟨_, rfl⟩
 have HR := Lib.hid (show rstmtP L f s = putS sz ⟨3, 0, vm, [], 0, ps⟩ from by unfold rstmtP; rw [if_neg hl]; simp only [hq1, hq2, hq3, hM, hz, hnow]; rfl)
 have HQ1 := Lib.hid hq1
 have HQ2 := Lib.hid hq2
 have HQ3 := Lib.hid hq3
 have HM := Lib.hid hM
 have HZ := Lib.hid hz
 have HLT := Lib.hid (isP_lt hq3)
 have HIA := Lib.hid (show i ≤ 1000 from by omega)
 clear h hf hnow e1 e2 e3 e4 e5 e6 hens hsl hl hq1 hq2 hq3 hM hz
 go_enter Tryz.func88, Tryz.ntmps88
 go_wp2_with fail
 refine (snow F0.out.st tc HNOW.out).mono ?_
 rintro e w1 ⟨rfl, b1⟩
 have F1 := Lib.hid (F0.out.call b1)
 clear b1
 obtain ⟨⟨r0, r1, r2, r3, r4, r5, r6⟩, ⟨z0, z1, z2, z3, z4, z5, z6⟩, ⟨y0, y1, y2, y3, y4, y5, y6⟩, ⟨x0, x1, x2, x3, x4, x5, x6⟩, hlt0, hlt1⟩ := F1.out.cells
 go_wp2_with fail
 obtain ⟨w2, hw2⟩ : ∃ w2, w2 = w1.alloc (.cells #[.int .i64 0, .int .i64 0, .string ⟨#[]⟩, (.slice none 0 0), .int .i64 0, .int .i64 ((ps : Nat) : Int)] 93) := ⟨_, rfl⟩
 have F2 := Lib.hid (show FR X TA L n SA ns sc tc w w2 s i EA ne ec d c p #[(.slice none 0 0), (.int .i64 0), (.slice none 0 0), (.slice none 0 0), (.int .i64 0), (.int .i64 0), (.int .i64 0)] ((w1.heap.size, .cells #[.int .i64 0, .int .i64 0, .string ⟨#[]⟩, (.slice none 0 0), .int .i64 0, .int .i64 ((ps : Nat) : Int)] 93) :: []) from by rw [hw2]; exact F1.out.alloc _)
 have HSA := Lib.hid (show ∀ k, blk SA = some k → k ≠ w1.heap.size from fun k hk => by have h1 := HSA0.out k hk; have h2 := F1.out.bx.lt; omega)
 try rw [← hw2]
 clear r0 r1 r2 r3 r4 r5 r6 z0 z1 z2 z3 z4 z5 z6 y0 y1 y2 y3 y4 y5 y6 x0 x1 x2 x3 x4 x5 x6 hlt0 hlt1
 clear hw2 F1
 refine (sis F2.out.st tc _ HQ1.out).mono ?_
 rintro e wa ⟨rfl, bq⟩
 have Fa := Lib.hid (F2.out.call bq)
 clear bq F2
 obtain ⟨⟨r0, r1, r2, r3, r4, r5, r6⟩, ⟨z0, z1, z2, z3, z4, z5, z6⟩, ⟨y0, y1, y2, y3, y4, y5, y6⟩, ⟨x0, x1, x2, x3, x4, x5, x6⟩, hlt0, hlt1⟩ := Fa.out.cells
 obtain ⟨⟨o0, o1, o2, o3, o4, o5⟩, ⟨u0, u1, u2, u3, u4⟩, og0, og1⟩ := Fa.out.outc
 go_wp2_with fail
 clear r0 r1 r2 r3 r4 r5 r6 z0 z1 z2 z3 z4 z5 z6 y0 y1 y2 y3 y4 y5 y6 x0 x1 x2 x3 x4 x5 x6 hlt0 hlt1
 clear o0 o1 o2 o3 o4 o5 u0 u1 u2 u3 u4 og0 og1
 refine (sis Fa.out.st tc _ HQ2.out).mono ?_
 rintro e wb ⟨rfl, bq⟩
 have Fb := Lib.hid (Fa.out.call bq)
 clear bq Fa
 obtain ⟨⟨r0, r1, r2, r3, r4, r5, r6⟩, ⟨z0, z1, z2, z3, z4, z5, z6⟩, ⟨y0, y1, y2, y3, y4, y5, y6⟩, ⟨x0, x1, x2, x3, x4, x5, x6⟩, hlt0, hlt1⟩ := Fb.out.cells
 obtain ⟨⟨o0, o1, o2, o3, o4, o5⟩, ⟨u0, u1, u2, u3, u4⟩, og0, og1⟩ := Fb.out.outc
 go_wp2_with fail
 clear r0 r1 r2 r3 r4 r5 r6 z0 z1 z2 z3 z4 z5 z6 y0 y1 y2 y3 y4 y5 y6 x0 x1 x2 x3 x4 x5 x6 hlt0 hlt1
 clear o0 o1 o2 o3 o4 o5 u0 u1 u2 u3 u4 og0 og1
 have hia : i ≤ 1000 := HIA.out
 refine (sis Fb.out.st tc _ HQ3.out).mono ?_
 rintro e w5 ⟨rfl, bq⟩
 have F5 := Lib.hid (Fb.out.call bq)
 clear bq Fb
 obtain ⟨⟨r0, r1, r2, r3, r4, r5, r6⟩, ⟨z0, z1, z2, z3, z4, z5, z6⟩, ⟨y0, y1, y2, y3, y4, y5, y6⟩, ⟨x0, x1, x2, x3, x4, x5, x6⟩, hlt0, hlt1⟩ := F5.out.cells
 obtain ⟨⟨o0, o1, o2, o3, o4, o5⟩, ⟨u0, u1, u2, u3, u4⟩, og0, og1⟩ := F5.out.outc
 go_wp2_with fail
 have q64' := q64
 obtain ⟨i6, hi6⟩ : ∃ i6, i6 = i + 1 := ⟨_, rfl⟩
 obtain ⟨w6, hw6⟩ : ∃ w6, w6 = (w5.setCell ⟨w.heap.size, 1, none⟩ (.int .i64 ((i : Int) + 1))).setCell ⟨w1.heap.size, 0, none⟩ (.int .i64 3) := ⟨_, rfl⟩
 have F6 := Lib.hid (show FR X TA L n SA ns sc tc w w6 (advP s) i6 EA ne ec d c p #[(.slice none 0 0), (.int .i64 0), (.slice none 0 0), (.slice none 0 0), (.int .i64 0), (.int .i64 0), (.int .i64 0)] ((w1.heap.size, .cells #[.int .i64 3, .int .i64 0, .string ⟨#[]⟩, (.slice none 0 0), .int .i64 0, .int .i64 ((ps : Nat) : Int)] 93) :: []) from by rw [hw6]; exact (F5.out.adv HLT.out hi6).setOut HSA.out 0 _ rfl)
 have h6i : ((i : Int) + 1) = ((i6 : Nat) : Int) := by rw [hi6]; rfl
 try rw [← hw6]
 try simp only [h6i]
 clear hw6 h6i hi6 hia q64' F5
 clear r0 r1 r2 r3 r4 r5 r6 z0 z1 z2 z3 z4 z5 z6 y0 y1 y2 y3 y4 y5 y6 x0 x1 x2 x3 x4 x5 x6 hlt0 hlt1
 clear o0 o1 o2 o3 o4 o5 u0 u1 u2 u3 u4 og0 og1
 refine (sname F6.out.st tc).mono ?_
 rintro e w7 ⟨v, rfl, h7, b7⟩
 rw [HM.out] at h7
 obtain ⟨i7, EA7, ne7, ec7, d7, c7, p7, rfl, h7⟩ := h7
 try simp only [HM.out]
 have F7 := Lib.hid (F6.out.call b7)
 obtain ⟨⟨r0, r1, r2, r3, r4, r5, r6⟩, ⟨z0, z1, z2, z3, z4, z5, z6⟩, ⟨y0, y1, y2, y3, y4, y5, y6⟩, ⟨x0, x1, x2, x3, x4, x5, x6⟩, hlt0, hlt1⟩ := F7.out.cells
 obtain ⟨⟨o0, o1, o2, o3, o4, o5⟩, ⟨u0, u1, u2, u3, u4⟩, og0, og1⟩ := F7.out.outc
 go_wp2_with (obtain ⟨w8, hwS⟩ : ∃ wS, wS = (((((((w7).setCell ⟨w.heap.size, 0, none⟩ (.slice TA n tc)).setCell ⟨w.heap.size, 1, none⟩ (.int .i64 ((i7 : Nat) : Int))).setCell ⟨w.heap.size, 2, none⟩ (.slice SA ns sc)).setCell ⟨w.heap.size, 3, none⟩ (.slice EA7 ne7 ec7)).setCell ⟨w.heap.size, 4, none⟩ (.int .i64 ((d7 : Nat) : Int))).setCell ⟨w.heap.size, 5, none⟩ (.int .i64 ((c7 : Nat) : Int))).setCell ⟨w.heap.size, 6, none⟩ (.int .i64 ((p7 : Nat) : Int)) := ⟨_, rfl⟩; rw [← hwS]; have F8 := Lib.hid (F6.out.take b7 h7 hwS); have hsz : w8.heap.size = w7.heap.size := (by rw [hwS]; simp [World.setCell]); obtain ⟨w9, hwX⟩ : ∃ wX, wX = w8.setCell ⟨w1.heap.size, 2, none⟩ (.string vm) := ⟨_, rfl⟩; rw [← hwX]; have F9 := Lib.hid (show FR X TA L n SA ns sc tc w w9 sm i7 EA7 ne7 ec7 d7 c7 p7 #[(.slice none 0 0), (.int .i64 0), (.slice none 0 0), (.slice none 0 0), (.int .i64 0), (.int .i64 0), (.int .i64 0)] ((w1.heap.size, .cells #[.int .i64 3, .int .i64 0, .string vm, (.slice none 0 0), .int .i64 0, .int .i64 ((ps : Nat) : Int)] 93) :: []) from (by rw [hwX]; exact F8.out.setOut HSA.out 2 _ rfl)); clear hwX F8; clear hwS hsz b7 h7; clear r0 r1 r2 r3 r4 r5 r6 z0 z1 z2 z3 z4 z5 z6 y0 y1 y2 y3 y4 y5 y6 x0 x1 x2 x3 x4 x5 x6 hlt0 hlt1; clear o0 o1 o2 o3 o4 o5 u0 u1 u2 u3 u4 og0 og1; obtain ⟨⟨r0, r1, r2, r3, r4, r5, r6⟩, ⟨z0, z1, z2, z3, z4, z5, z6⟩, ⟨y0, y1, y2, y3, y4, y5, y6⟩, ⟨x0, x1, x2, x3, x4, x5, x6⟩, hlt0, hlt1⟩ := F9.out.cells; obtain ⟨⟨o0, o1, o2, o3, o4, o5⟩, ⟨u0, u1, u2, u3, u4⟩, og0, og1⟩ := F9.out.outc)
 clear r0 r1 r2 r3 r4 r5 r6 z0 z1 z2 z3 z4 z5 z6 y0 y1 y2 y3 y4 y5 y6 x0 x1 x2 x3 x4 x5 x6 hlt0 hlt1
 clear o0 o1 o2 o3 o4 o5 u0 u1 u2 u3 u4 og0 og1
 refine (swant F9.out.st tc tSemi).mono ?_
 rintro e w10 ⟨v, rfl, h10, b10⟩
 rw [HZ.out] at h10
 obtain ⟨i10, EA10, ne10, ec10, d10, c10, p10, rfl, h10⟩ := h10
 try simp only [HZ.out]
 have F10 := Lib.hid (F9.out.call b10)
 obtain ⟨⟨r0, r1, r2, r3, r4, r5, r6⟩, ⟨z0, z1, z2, z3, z4, z5, z6⟩, ⟨y0, y1, y2, y3, y4, y5, y6⟩, ⟨x0, x1, x2, x3, x4, x5, x6⟩, hlt0, hlt1⟩ := F10.out.cells
 obtain ⟨⟨o0, o1, o2, o3, o4, o5⟩, ⟨u0, u1, u2, u3, u4⟩, og0, og1⟩ := F10.out.outc
 go_wp2_with (obtain ⟨w4, hwS⟩ : ∃ wS, wS = (((((((w10).setCell ⟨w.heap.size, 0, none⟩ (.slice TA n tc)).setCell ⟨w.heap.size, 1, none⟩ (.int .i64 ((i10 : Nat) : Int))).setCell ⟨w.heap.size, 2, none⟩ (.slice SA ns sc)).setCell ⟨w.heap.size, 3, none⟩ (.slice EA10 ne10 ec10)).setCell ⟨w.heap.size, 4, none⟩ (.int .i64 ((d10 : Nat) : Int))).setCell ⟨w.heap.size, 5, none⟩ (.int .i64 ((c10 : Nat) : Int))).setCell ⟨w.heap.size, 6, none⟩ (.int .i64 ((p10 : Nat) : Int)) := ⟨_, rfl⟩; rw [← hwS]; have F4 := Lib.hid (F9.out.take b10 h10 hwS); have hsz : w4.heap.size = w10.heap.size := (by rw [hwS]; simp [World.setCell]); clear hwS hsz b10 h10; clear r0 r1 r2 r3 r4 r5 r6 z0 z1 z2 z3 z4 z5 z6 y0 y1 y2 y3 y4 y5 y6 x0 x1 x2 x3 x4 x5 x6 hlt0 hlt1; clear o0 o1 o2 o3 o4 o5 u0 u1 u2 u3 u4 og0 og1; obtain ⟨⟨r0, r1, r2, r3, r4, r5, r6⟩, ⟨z0, z1, z2, z3, z4, z5, z6⟩, ⟨y0, y1, y2, y3, y4, y5, y6⟩, ⟨x0, x1, x2, x3, x4, x5, x6⟩, hlt0, hlt1⟩ := F4.out.cells; obtain ⟨⟨o0, o1, o2, o3, o4, o5⟩, ⟨u0, u1, u2, u3, u4⟩, og0, og1⟩ := F4.out.outc)
 obtain ⟨SSS, hSSS⟩ : ∃ SSS, SSS = (sz).ss := ⟨_, rfl⟩
 have HSSS := Lib.hid hSSS
 have HNN := Lib.hid (show SSS.length = ns ∧ ns < 64 from ⟨by rw [hSSS]; exact F4.out.st.ens.symm, HNS.out.2⟩)
 have hn2 : ns + 1 ≤ 1000000 := by have := HNS.out.2; omega
 have hn3 : ns ≤ 1000000 := by omega
 have HB4 := Lib.hid (show ∀ W, Below w4.heap.size w4 W → W.heap[w.heap.size]? = some (.cells #[.slice TA n tc, .int .i64 ((i10 : Nat) : Int), .slice SA ns sc, .slice EA10 ne10 ec10, .int .i64 ((d10 : Nat) : Int), .int .i64 ((c10 : Nat) : Int), .int .i64 ((p10 : Nat) : Int)] 165 (0, 0)) ∧ W.heap[w1.heap.size]? = some (.cells #[.int .i64 3, .int .i64 0, .string vm, (.slice none 0 0), .int .i64 0, .int .i64 ((ps : Nat) : Int)] 93 (0, 0)) ∧ W.heap[w.heap.size + 1]? = some (.cells #[(.slice none 0 0), (.int .i64 0), (.slice none 0 0), (.slice none 0 0), (.int .i64 0), (.int .i64 0), (.int .i64 0)] 165 (0, 0)) ∧ w.heap.size + 1 < W.heap.size ∧ w1.heap.size < W.heap.size from fun W hW => by
  have hF := F4.out.call hW
  have hx := hF.ex _ (List.mem_cons_self ..)
  exact ⟨hF.bx.k0, hx.2, hF.bx.k1, hF.bx.lt, (Array.getElem?_eq_some_iff.1 hx.2).1⟩)
 have HS4 := Lib.hid (show ∀ W, Below w4.heap.size w4 W → OwnSX X W 0 SA sc SSS from fun W hW => by
  rw [HSSS.out]
  exact ((F4.out.call hW).st.rr.ownS).re fun k hk => .inl ((fun k hk => hk) k hk))
 have HV4 := Lib.hid (show ∀ W, Below w4.heap.size w4 W → ArgsV X 0 W (.slice none 0 0) (⟨3, 0, vm, [], 0, ps⟩ : Sm).shape from fun W hW => ArgsV.nil _ _ _)
 clear hSSS
 go_region_law (first | (have u1 := HS4.out ((w4.alloc (.cells #[] 93)).drew) ((one_new w4 (.cells #[] 93)).drew); have u2 : ((w4.alloc (.cells #[] 93)).drew).heap[w4.heap.size]? = some (.cells #[] 93 (0, 0)) := heap_alloc_new w4 (.cells #[] 93); have u3 := ((one_new w4 (.cells #[] 93)).drew).size; refine @appS0_step X ((w4.alloc (.cells #[] 93)).drew) _ _ _ _ _ _ rfl (.tmp 102) (.tmp 105) ?_ w4.heap.size w4.heap.size ?_ SA sc ns SSS ?_ ?_ ?_ ?_ ?_ ?_ ?_ ?_; rfl; rfl; exact HNN.out.1; rfl; exact u1; exact u2; exact Nat.le_refl _; exact u3; exact hn3; clear u1 u2 u3; intro A1 k1 w5 ho1 hb1 hA1; have b5 : Below w4.heap.size w4 w5 := bnext ((one_new w4 (.cells #[] 93)).drew) hb1; obtain ⟨p0, p1, p2, p3, p4⟩ := HB4.out w5 b5; obtain ⟨o0, o1, o2, o3, o4, o5⟩ := cells6 p1; have hlt5 : w1.heap.size < w5.heap.size := p4; clear p0 p1 p2 p3) | (have u1 := HS4.out (((w4.alloc (.cells #[] 93)).alloc (.cells #[.int .i64 3, .int .i64 0, .string vm, (.slice none 0 0), .int .i64 0, .int .i64 ((ps : Nat) : Int)] 93)).drew) ((al_two w4 (.cells #[] 93) (.cells #[.int .i64 3, .int .i64 0, .string vm, (.slice none 0 0), .int .i64 0, .int .i64 ((ps : Nat) : Int)] 93)).drew); have u2 : (((w4.alloc (.cells #[] 93)).alloc (.cells #[.int .i64 3, .int .i64 0, .string vm, (.slice none 0 0), .int .i64 0, .int .i64 ((ps : Nat) : Int)] 93)).drew).heap[w4.heap.size]? = some (.cells #[] 93 (0, 0)) := al_old w4 #[] 93 (.cells #[.int .i64 3, .int .i64 0, .string vm, (.slice none 0 0), .int .i64 0, .int .i64 ((ps : Nat) : Int)] 93); have u3 := ((al_two w4 (.cells #[] 93) (.cells #[.int .i64 3, .int .i64 0, .string vm, (.slice none 0 0), .int .i64 0, .int .i64 ((ps : Nat) : Int)] 93)).drew).size; refine @appS0_step X (((w4.alloc (.cells #[] 93)).alloc (.cells #[.int .i64 3, .int .i64 0, .string vm, (.slice none 0 0), .int .i64 0, .int .i64 ((ps : Nat) : Int)] 93)).drew) _ _ _ _ _ _ rfl (.tmp 102) (.tmp 105) ?_ w4.heap.size w4.heap.size ?_ SA sc ns SSS ?_ ?_ ?_ ?_ ?_ ?_ ?_ ?_; rfl; rfl; exact HNN.out.1; rfl; exact u1; exact u2; exact Nat.le_refl _; exact u3; exact hn3; clear u1 u2 u3; intro A1 k1 w5 ho1 hb1 hA1; have b5 : Below w4.heap.size w4 w5 := bnext ((al_two w4 (.cells #[] 93) (.cells #[.int .i64 3, .int .i64 0, .string vm, (.slice none 0 0), .int .i64 0, .int .i64 ((ps : Nat) : Int)] 93)).drew) hb1; obtain ⟨p0, p1, p2, p3, p4⟩ := HB4.out w5 b5; obtain ⟨o0, o1, o2, o3, o4, o5⟩ := cells6 p1; have hlt5 : w1.heap.size < w5.heap.size := p4; have hE5 : w5.heap[w4.heap.size + 1]? = some (.cells #[.int .i64 3, .int .i64 0, .string vm, (.slice none 0 0), .int .i64 0, .int .i64 ((ps : Nat) : Int)] 93 (0, 0)) := bl_on (w := ((w4.alloc (.cells #[] 93)).alloc (.cells #[.int .i64 3, .int .i64 0, .string vm, (.slice none 0 0), .int .i64 0, .int .i64 ((ps : Nat) : Int)] 93)).drew) (show (((w4.alloc (.cells #[] 93)).alloc (.cells #[.int .i64 3, .int .i64 0, .string vm, (.slice none 0 0), .int .i64 0, .int .i64 ((ps : Nat) : Int)] 93)).drew).heap[w4.heap.size + 1]? = some (.cells #[.int .i64 3, .int .i64 0, .string vm, (.slice none 0 0), .int .i64 0, .int .i64 ((ps : Nat) : Int)] 93 (0, 0)) from al_new2 w4 #[.int .i64 3, .int .i64 0, .string vm, (.slice none 0 0), .int .i64 0, .int .i64 ((ps : Nat) : Int)] 93 (.cells #[] 93)) hb1; clear p0 p1 p2 p3) | (have u1 := HS4.out (((w4.alloc (.cells #[.int .i64 3, .int .i64 0, .string vm, (.slice none 0 0), .int .i64 0, .int .i64 ((ps : Nat) : Int)] 93)).alloc (.cells #[] 93)).drew) ((al_two w4 (.cells #[.int .i64 3, .int .i64 0, .string vm, (.slice none 0 0), .int .i64 0, .int .i64 ((ps : Nat) : Int)] 93) (.cells #[] 93)).drew); have u2 : (((w4.alloc (.cells #[.int .i64 3, .int .i64 0, .string vm, (.slice none 0 0), .int .i64 0, .int .i64 ((ps : Nat) : Int)] 93)).alloc (.cells #[] 93)).drew).heap[(w4.heap.size + 1)]? = some (.cells #[] 93 (0, 0)) := al_new2 w4 #[] 93 (.cells #[.int .i64 3, .int .i64 0, .string vm, (.slice none 0 0), .int .i64 0, .int .i64 ((ps : Nat) : Int)] 93); have u3 := ((al_two w4 (.cells #[.int .i64 3, .int .i64 0, .string vm, (.slice none 0 0), .int .i64 0, .int .i64 ((ps : Nat) : Int)] 93) (.cells #[] 93)).drew).size; refine @appS0_step X (((w4.alloc (.cells #[.int .i64 3, .int .i64 0, .string vm, (.slice none 0 0), .int .i64 0, .int .i64 ((ps : Nat) : Int)] 93)).alloc (.cells #[] 93)).drew) _ _ _ _ _ _ rfl (.tmp 102) (.tmp 105) ?_ w4.heap.size (w4.heap.size + 1) ?_ SA sc ns SSS ?_ ?_ ?_ ?_ ?_ ?_ ?_ ?_; rfl; rfl; exact HNN.out.1; rfl; exact u1; exact u2; exact Nat.le_succ _; exact u3; exact hn3; clear u1 u2 u3; intro A1 k1 w5 ho1 hb1 hA1; have b5 : Below w4.heap.size w4 w5 := bnext ((al_two w4 (.cells #[.int .i64 3, .int .i64 0, .string vm, (.slice none 0 0), .int .i64 0, .int .i64 ((ps : Nat) : Int)] 93) (.cells #[] 93)).drew) hb1; obtain ⟨p0, p1, p2, p3, p4⟩ := HB4.out w5 b5; obtain ⟨o0, o1, o2, o3, o4, o5⟩ := cells6 p1; have hlt5 : w1.heap.size < w5.heap.size := p4; have hE5 : w5.heap[w4.heap.size]? = some (.cells #[.int .i64 3, .int .i64 0, .string vm, (.slice none 0 0), .int .i64 0, .int .i64 ((ps : Nat) : Int)] 93 (0, 0)) := bl_on (w := ((w4.alloc (.cells #[.int .i64 3, .int .i64 0, .string vm, (.slice none 0 0), .int .i64 0, .int .i64 ((ps : Nat) : Int)] 93)).alloc (.cells #[] 93)).drew) (show (((w4.alloc (.cells #[.int .i64 3, .int .i64 0, .string vm, (.slice none 0 0), .int .i64 0, .int .i64 ((ps : Nat) : Int)] 93)).alloc (.cells #[] 93)).drew).heap[w4.heap.size]? = some (.cells #[.int .i64 3, .int .i64 0, .string vm, (.slice none 0 0), .int .i64 0, .int .i64 ((ps : Nat) : Int)] 93 (0, 0)) from al_old w4 #[.int .i64 3, .int .i64 0, .string vm, (.slice none 0 0), .int .i64 0, .int .i64 ((ps : Nat) : Int)] 93 (.cells #[] 93)) hb1; clear p0 p1 p2 p3) | (have u1 := ho1.next (one_new w5 (.cells #[.int .i64 3, .int .i64 0, .string vm, (.slice none 0 0), .int .i64 0, .int .i64 ((ps : Nat) : Int)] 93)); have u2 : (w5.alloc (.cells #[.int .i64 3, .int .i64 0, .string vm, (.slice none 0 0), .int .i64 0, .int .i64 ((ps : Nat) : Int)] 93)).heap[w5.heap.size]? = some (.cells #[.int .i64 3, .int .i64 0, .string vm, (.slice none 0 0), .int .i64 0, .int .i64 ((ps : Nat) : Int)] 93 (0, 0)) := heap_alloc_new w5 (.cells #[.int .i64 3, .int .i64 0, .string vm, (.slice none 0 0), .int .i64 0, .int .i64 ((ps : Nat) : Int)] 93); have u3 := HV4.out (w5.alloc (.cells #[.int .i64 3, .int .i64 0, .string vm, (.slice none 0 0), .int .i64 0, .int .i64 ((ps : Nat) : Int)] 93)) (bnext b5 (one_new w5 (.cells #[.int .i64 3, .int .i64 0, .string vm, (.slice none 0 0), .int .i64 0, .int .i64 ((ps : Nat) : Int)] 93))); refine @appS_step X (w5.alloc (.cells #[.int .i64 3, .int .i64 0, .string vm, (.slice none 0 0), .int .i64 0, .int .i64 ((ps : Nat) : Int)] 93)) _ _ _ _ _ _ rfl (.tmp 106) (.tmp 108) ?_ 0 A1 k1 SSS ns ?_ ?_ ?_ w5.heap.size ?_ (⟨3, 0, vm, [], 0, ps⟩, (.slice none 0 0)) ?_ ?_ ?_ ?_ ?_; rfl; exact HNN.out.1; rfl; exact u1; rfl; exact u2; exact u3; exact hn2; exact Nat.zero_le _; clear u1 u2 u3; intro A2 k2 w6 ho2 hg2; have b6 : Below w4.heap.size w4 w6 := (bnext b5 (one_new w5 (.cells #[.int .i64 3, .int .i64 0, .string vm, (.slice none 0 0), .int .i64 0, .int .i64 ((ps : Nat) : Int)] 93))).grown hg2 ((bnext b5 (one_new w5 (.cells #[.int .i64 3, .int .i64 0, .string vm, (.slice none 0 0), .int .i64 0, .int .i64 ((ps : Nat) : Int)] 93))).size) (fun k hk => hA1 k hk); obtain ⟨p0, p1, p2, p3, p4⟩ := HB4.out w6 b6; obtain ⟨r0, r1, r2, r3, r4, r5, r6⟩ := cells7 p0; obtain ⟨y0, y1, y2, y3, y4, y5, y6⟩ := frees7 p0; obtain ⟨z0, z1, z2, z3, z4, z5, z6⟩ := cells7 p2; obtain ⟨x0, x1, x2, x3, x4, x5, x6⟩ := frees7 p2; have hl6 : w.heap.size + 1 < w6.heap.size := p3; have hl7 : w.heap.size < w6.heap.size := Nat.lt_trans (Nat.lt_succ_self _) p3; have HB6 := Lib.hid b6; have HO6 := Lib.hid ho2; clear p0 p1 p2 p3 p4 ho2 hg2 b6) | (have u1 := ho1; have u2 : (w5).heap[(w4.heap.size + 1)]? = some (.cells #[.int .i64 3, .int .i64 0, .string vm, (.slice none 0 0), .int .i64 0, .int .i64 ((ps : Nat) : Int)] 93 (0, 0)) := hE5; have u3 := HV4.out w5 b5; refine @appS_step X (w5) _ _ _ _ _ _ rfl (.tmp 106) (.tmp 108) ?_ 0 A1 k1 SSS ns ?_ ?_ ?_ (w4.heap.size + 1) ?_ (⟨3, 0, vm, [], 0, ps⟩, (.slice none 0 0)) ?_ ?_ ?_ ?_ ?_; rfl; exact HNN.out.1; rfl; exact u1; rfl; exact u2; exact u3; exact hn2; exact Nat.zero_le _; clear u1 u2 u3; intro A2 k2 w6 ho2 hg2; have b6 : Below w4.heap.size w4 w6 := (b5).grown hg2 (b5.size) (fun k hk => hA1 k hk); obtain ⟨p0, p1, p2, p3, p4⟩ := HB4.out w6 b6; obtain ⟨r0, r1, r2, r3, r4, r5, r6⟩ := cells7 p0; obtain ⟨y0, y1, y2, y3, y4, y5, y6⟩ := frees7 p0; obtain ⟨z0, z1, z2, z3, z4, z5, z6⟩ := cells7 p2; obtain ⟨x0, x1, x2, x3, x4, x5, x6⟩ := frees7 p2; have hl6 : w.heap.size + 1 < w6.heap.size := p3; have hl7 : w.heap.size < w6.heap.size := Nat.lt_trans (Nat.lt_succ_self _) p3; have HB6 := Lib.hid b6; have HO6 := Lib.hid ho2; clear p0 p1 p2 p3 p4 ho2 hg2 b6) | (have u1 := ho1; have u2 : (w5).heap[w4.heap.size]? = some (.cells #[.int .i64 3, .int .i64 0, .string vm, (.slice none 0 0), .int .i64 0, .int .i64 ((ps : Nat) : Int)] 93 (0, 0)) := hE5; have u3 := HV4.out w5 b5; refine @appS_step X (w5) _ _ _ _ _ _ rfl (.tmp 106) (.tmp 108) ?_ 0 A1 k1 SSS ns ?_ ?_ ?_ w4.heap.size ?_ (⟨3, 0, vm, [], 0, ps⟩, (.slice none 0 0)) ?_ ?_ ?_ ?_ ?_; rfl; exact HNN.out.1; rfl; exact u1; rfl; exact u2; exact u3; exact hn2; exact Nat.zero_le _; clear u1 u2 u3; intro A2 k2 w6 ho2 hg2; have b6 : Below w4.heap.size w4 w6 := (b5).grown hg2 (b5.size) (fun k hk => hA1 k hk); obtain ⟨p0, p1, p2, p3, p4⟩ := HB4.out w6 b6; obtain ⟨r0, r1, r2, r3, r4, r5, r6⟩ := cells7 p0; obtain ⟨y0, y1, y2, y3, y4, y5, y6⟩ := frees7 p0; obtain ⟨z0, z1, z2, z3, z4, z5, z6⟩ := cells7 p2; obtain ⟨x0, x1, x2, x3, x4, x5, x6⟩ := frees7 p2; have hl6 : w.heap.size + 1 < w6.heap.size := p3; have hl7 : w.heap.size < w6.heap.size := Nat.lt_trans (Nat.lt_succ_self _) p3; have HB6 := Lib.hid b6; have HO6 := Lib.hid ho2; clear p0 p1 p2 p3 p4 ho2 hg2 b6))
 all_goals
  go_wp2
  obtain ⟨wS, hwS⟩ : ∃ wS, wS = ((((((((w6.setCell ⟨w.heap.size, 2, none⟩ (.slice A2 (ns + 1) k2))).setCell ⟨w.heap.size + 1, 0, none⟩ (.slice TA n tc)).setCell ⟨w.heap.size + 1, 1, none⟩ (.int .i64 ((i10 : Nat) : Int))).setCell ⟨w.heap.size + 1, 2, none⟩ (.slice A2 (ns + 1) k2)).setCell ⟨w.heap.size + 1, 3, none⟩ (.slice EA10 ne10 ec10)).setCell ⟨w.heap.size + 1, 4, none⟩ (.int .i64 ((d10 : Nat) : Int))).setCell ⟨w.heap.size + 1, 5, none⟩ (.int .i64 ((c10 : Nat) : Int))).setCell ⟨w.heap.size + 1, 6, none⟩ (.int .i64 ((p10 : Nat) : Int)) := ⟨_, rfl⟩
  rw [← hwS]
  obtain ⟨f1, f2, f3⟩ := FR.putS (X := X) (n2 := ns + 1) (x := ⟨3, 0, vm, [], 0, ps⟩) F4.out (fun k hk => hk) HB6.out (by rw [← HSSS.out]; exact HO6.out) (by rw [← HSSS.out]; have := HNN.out; omega) rfl hwS
  obtain ⟨g0, g1, g2, g3, g4, g5, g6⟩ := cells7 f1
  clear hwS f1
  exact bodyPost_ret (v := .agg #[.slice TA n tc, .int .i64 ((i10 : Nat) : Int), .slice A2 (ns + 1) k2, .slice EA10 ne10 ec10, .int .i64 ((d10 : Nat) : Int), .int .i64 ((c10 : Nat) : Int), .int .i64 ((p10 : Nat) : Int)]) (by simp [results, Tryz.results88, go_sem, g0, g1, g2, g3, g4, g5, g6]) rfl ⟨_, A2, ns + 1, k2, rfl, by rw [HR.out]; exact f2.ro, f3⟩
end
end Go.Proofs.YtghlnncfigkkaaaGreatDoor
namespace Go.Proofs.YtghlnncfigkkaaaGreatDoor
set_option linter.unusedVariables false
set_option linter.unusedSimpArgs false
open Go.RowKit
attribute [local go_sem ↓] tok_field3 tok_field0
section
variable {X Y : Nat → Prop} {TA SA : Option Addr} {tc n ns sc : Nat} {L : List Tok} {s s' : PS} {w : World} {i ne ec d c p : Nat} {EA : Option Addr}
set_option maxRecDepth 100000 in
set_option maxHeartbeats 4000000 in
theorem rstmt_let (f : Nat) (h : ST X TA L s w n SA ns sc i EA ne ec d c p) (hf : 12 * L.length + 20 ≤ f) (hl : s.ss.length ≠ 64) (hq1 : isP L s tInput = false) (hq2 : isP L s tLet = true) :
  Calls Tryz.prog 88 #[.agg #[.slice TA n tc, .int .i64 ((i : Nat) : Int), .slice SA ns sc, .slice EA ne ec, .int .i64 ((d : Nat) : Int), .int .i64 ((c : Nat) : Int), .int .i64 ((p : Nat) : Int)]] w (RSt X TA tc L n w (rstmtP L f s)) := by
 have F0 := Lib.hid (FR.made (tc := tc) h #[(.slice none 0 0), (.int .i64 0), (.slice none 0 0), (.slice none 0 0), (.int .i64 0), (.int .i64 0), (.int .i64 0)])
 obtain ⟨kd, tx, nm, ps, hnow⟩ : ∃ kd tx nm ps, nowP L s = ⟨kd, tx, nm, ps⟩ := ⟨_, _, _, _, rfl⟩
 obtain ⟨e1, e2, e3, e4, e5, e6⟩ := h.el
 have hens := h.ens
 have hsl := h.rr.sl
 have HNOW := Lib.hid hnow
 have HSA0 := Lib.hid h.sa
 have q64 : decide ((64 : Int) ≤ (ns : Int)) = false := by rw [decide_eq_false_iff_not]; omega
 have HNS := Lib.hid (show ns = s.ss.length ∧ ns < 64 from by omega)
 obtain ⟨sm, vm, hM⟩ : ∃ sm vm, nameP L (advP s) = (sm, vm) := ⟨_, _, rfl⟩
 obtain ⟨se, hE⟩ : ∃ se, wantP L sm tEq = se := ⟨_, rfl⟩
 obtain ⟨sx, vx, hX⟩ : ∃ sx vx, exprP L f se = (sx, vx) := ⟨_, _, rfl⟩
 obtain ⟨sz, hz⟩ : ∃ sz, wantP L sx tSemi = sz := ⟨_, rfl⟩
 have HR := Lib.hid (show rstmtP L f s = putS sz ⟨2, 0, vm, [], vx, ps⟩ from by unfold rstmtP; rw [if_neg hl]; simp only [hq1, hq2, hM, hE, hX, hz, hnow]; rfl)
 have HQ1 := Lib.hid hq1
 have HQ2 := Lib.hid hq2
 have HM := Lib.hid hM
 have HE := Lib.hid hE
 have HX := Lib.hid hX
 have HZ := Lib.hid hz
 have HLT := Lib.hid (isP_lt hq2)
 have HIA := Lib.hid (show i ≤ 1000 from by omega)
 have HF := Lib.hid (show 12 * (L.length - se.i) + 6 ≤ f from by omega)
 clear h hf hnow e1 e2 e3 e4 e5 e6 hens hsl hl hq1 hq2 hM hE hX hz
 go_enter Tryz.func88, Tryz.ntmps88
 go_wp2_with fail
 refine (snow F0.out.st tc HNOW.out).mono ?_
 rintro e w1 ⟨rfl, b1⟩
 have F1 := Lib.hid (F0.out.call b1)
 clear b1
 obtain ⟨⟨r0, r1, r2, r3, r4, r5, r6⟩, ⟨z0, z1, z2, z3, z4, z5, z6⟩, ⟨y0, y1, y2, y3, y4, y5, y6⟩, ⟨x0, x1, x2, x3, x4, x5, x6⟩, hlt0, hlt1⟩ := F1.out.cells
 go_wp2_with fail
 obtain ⟨w2, hw2⟩ : ∃ w2, w2 = w1.alloc (.cells #[.int .i64 0, .int .i64 0, .string ⟨#[]⟩, (.slice none 0 0), .int .i64 0, .int .i64 ((ps : Nat) : Int)] 93) := ⟨_, rfl⟩
 have F2 := Lib.hid (show FR X TA L n SA ns sc tc w w2 s i EA ne ec d c p #[(.slice none 0 0), (.int .i64 0), (.slice none 0 0), (.slice none 0 0), (.int .i64 0), (.int .i64 0), (.int .i64 0)] ((w1.heap.size, .cells #[.int .i64 0, .int .i64 0, .string ⟨#[]⟩, (.slice none 0 0), .int .i64 0, .int .i64 ((ps : Nat) : Int)] 93) :: []) from by rw [hw2]; exact F1.out.alloc _)
 have HSA := Lib.hid (show ∀ k, blk SA = some k → k ≠ w1.heap.size from fun k hk => by have h1 := HSA0.out k hk; have h2 := F1.out.bx.lt; omega)
 try rw [← hw2]
 clear r0 r1 r2 r3 r4 r5 r6 z0 z1 z2 z3 z4 z5 z6 y0 y1 y2 y3 y4 y5 y6 x0 x1 x2 x3 x4 x5 x6 hlt0 hlt1
 clear hw2 F1
 refine (sis F2.out.st tc _ HQ1.out).mono ?_
 rintro e wa ⟨rfl, bq⟩
 have Fa := Lib.hid (F2.out.call bq)
 clear bq F2
 obtain ⟨⟨r0, r1, r2, r3, r4, r5, r6⟩, ⟨z0, z1, z2, z3, z4, z5, z6⟩, ⟨y0, y1, y2, y3, y4, y5, y6⟩, ⟨x0, x1, x2, x3, x4, x5, x6⟩, hlt0, hlt1⟩ := Fa.out.cells
 obtain ⟨⟨o0, o1, o2, o3, o4, o5⟩, ⟨u0, u1, u2, u3, u4⟩, og0, og1⟩ := Fa.out.outc
 go_wp2_with fail
 clear r0 r1 r2 r3 r4 r5 r6 z0 z1 z2 z3 z4 z5 z6 y0 y1 y2 y3 y4 y5 y6 x0 x1 x2 x3 x4 x5 x6 hlt0 hlt1
 clear o0 o1 o2 o3 o4 o5 u0 u1 u2 u3 u4 og0 og1
 have hia : i ≤ 1000 := HIA.out
 refine (sis Fa.out.st tc _ HQ2.out).mono ?_
 rintro e w5 ⟨rfl, bq⟩
 have F5 := Lib.hid (Fa.out.call bq)
 clear bq Fa
 obtain ⟨⟨r0, r1, r2, r3, r4, r5, r6⟩, ⟨z0, z1, z2, z3, z4, z5, z6⟩, ⟨y0, y1, y2, y3, y4, y5, y6⟩, ⟨x0, x1, x2, x3, x4, x5, x6⟩, hlt0, hlt1⟩ := F5.out.cells
 obtain ⟨⟨o0, o1, o2, o3, o4, o5⟩, ⟨u0, u1, u2, u3, u4⟩, og0, og1⟩ := F5.out.outc
 go_wp2_with fail
 have q64' := q64
 obtain ⟨i6, hi6⟩ : ∃ i6, i6 = i + 1 := ⟨_, rfl⟩
 obtain ⟨w6, hw6⟩ : ∃ w6, w6 = (w5.setCell ⟨w.heap.size, 1, none⟩ (.int .i64 ((i : Int) + 1))).setCell ⟨w1.heap.size, 0, none⟩ (.int .i64 2) := ⟨_, rfl⟩
 have F6 := Lib.hid (show FR X TA L n SA ns sc tc w w6 (advP s) i6 EA ne ec d c p #[(.slice none 0 0), (.int .i64 0), (.slice none 0 0), (.slice none 0 0), (.int .i64 0), (.int .i64 0), (.int .i64 0)] ((w1.heap.size, .cells #[.int .i64 2, .int .i64 0, .string ⟨#[]⟩, (.slice none 0 0), .int .i64 0, .int .i64 ((ps : Nat) : Int)] 93) :: []) from by rw [hw6]; exact (F5.out.adv HLT.out hi6).setOut HSA.out 0 _ rfl)
 have h6i : ((i : Int) + 1) = ((i6 : Nat) : Int) := by rw [hi6]; rfl
 try rw [← hw6]
 try simp only [h6i]
 clear hw6 h6i hi6 hia q64' F5
 clear r0 r1 r2 r3 r4 r5 r6 z0 z1 z2 z3 z4 z5 z6 y0 y1 y2 y3 y4 y5 y6 x0 x1 x2 x3 x4 x5 x6 hlt0 hlt1
 clear o0 o1 o2 o3 o4 o5 u0 u1 u2 u3 u4 og0 og1
 refine (sname F6.out.st tc).mono ?_
 rintro e w7 ⟨v, rfl, h7, b7⟩
 rw [HM.out] at h7
 obtain ⟨i7, EA7, ne7, ec7, d7, c7, p7, rfl, h7⟩ := h7
 try simp only [HM.out]
 have F7 := Lib.hid (F6.out.call b7)
 obtain ⟨⟨r0, r1, r2, r3, r4, r5, r6⟩, ⟨z0, z1, z2, z3, z4, z5, z6⟩, ⟨y0, y1, y2, y3, y4, y5, y6⟩, ⟨x0, x1, x2, x3, x4, x5, x6⟩, hlt0, hlt1⟩ := F7.out.cells
 obtain ⟨⟨o0, o1, o2, o3, o4, o5⟩, ⟨u0, u1, u2, u3, u4⟩, og0, og1⟩ := F7.out.outc
 go_wp2_with (obtain ⟨w8, hwS⟩ : ∃ wS, wS = (((((((w7).setCell ⟨w.heap.size, 0, none⟩ (.slice TA n tc)).setCell ⟨w.heap.size, 1, none⟩ (.int .i64 ((i7 : Nat) : Int))).setCell ⟨w.heap.size, 2, none⟩ (.slice SA ns sc)).setCell ⟨w.heap.size, 3, none⟩ (.slice EA7 ne7 ec7)).setCell ⟨w.heap.size, 4, none⟩ (.int .i64 ((d7 : Nat) : Int))).setCell ⟨w.heap.size, 5, none⟩ (.int .i64 ((c7 : Nat) : Int))).setCell ⟨w.heap.size, 6, none⟩ (.int .i64 ((p7 : Nat) : Int)) := ⟨_, rfl⟩; rw [← hwS]; have F8 := Lib.hid (F6.out.take b7 h7 hwS); have hsz : w8.heap.size = w7.heap.size := (by rw [hwS]; simp [World.setCell]); obtain ⟨w9, hwX⟩ : ∃ wX, wX = w8.setCell ⟨w1.heap.size, 2, none⟩ (.string vm) := ⟨_, rfl⟩; rw [← hwX]; have F9 := Lib.hid (show FR X TA L n SA ns sc tc w w9 sm i7 EA7 ne7 ec7 d7 c7 p7 #[(.slice none 0 0), (.int .i64 0), (.slice none 0 0), (.slice none 0 0), (.int .i64 0), (.int .i64 0), (.int .i64 0)] ((w1.heap.size, .cells #[.int .i64 2, .int .i64 0, .string vm, (.slice none 0 0), .int .i64 0, .int .i64 ((ps : Nat) : Int)] 93) :: []) from (by rw [hwX]; exact F8.out.setOut HSA.out 2 _ rfl)); clear hwX F8; clear hwS hsz b7 h7; clear r0 r1 r2 r3 r4 r5 r6 z0 z1 z2 z3 z4 z5 z6 y0 y1 y2 y3 y4 y5 y6 x0 x1 x2 x3 x4 x5 x6 hlt0 hlt1; clear o0 o1 o2 o3 o4 o5 u0 u1 u2 u3 u4 og0 og1; obtain ⟨⟨r0, r1, r2, r3, r4, r5, r6⟩, ⟨z0, z1, z2, z3, z4, z5, z6⟩, ⟨y0, y1, y2, y3, y4, y5, y6⟩, ⟨x0, x1, x2, x3, x4, x5, x6⟩, hlt0, hlt1⟩ := F9.out.cells; obtain ⟨⟨o0, o1, o2, o3, o4, o5⟩, ⟨u0, u1, u2, u3, u4⟩, og0, og1⟩ := F9.out.outc)
 clear r0 r1 r2 r3 r4 r5 r6 z0 z1 z2 z3 z4 z5 z6 y0 y1 y2 y3 y4 y5 y6 x0 x1 x2 x3 x4 x5 x6 hlt0 hlt1
 clear o0 o1 o2 o3 o4 o5 u0 u1 u2 u3 u4 og0 og1
 refine (swant F9.out.st tc tEq).mono ?_
 rintro e w10 ⟨v, rfl, h10, b10⟩
 rw [HE.out] at h10
 obtain ⟨i10, EA10, ne10, ec10, d10, c10, p10, rfl, h10⟩ := h10
 try simp only [HE.out]
 have F10 := Lib.hid (F9.out.call b10)
 obtain ⟨⟨r0, r1, r2, r3, r4, r5, r6⟩, ⟨z0, z1, z2, z3, z4, z5, z6⟩, ⟨y0, y1, y2, y3, y4, y5, y6⟩, ⟨x0, x1, x2, x3, x4, x5, x6⟩, hlt0, hlt1⟩ := F10.out.cells
 obtain ⟨⟨o0, o1, o2, o3, o4, o5⟩, ⟨u0, u1, u2, u3, u4⟩, og0, og1⟩ := F10.out.outc
 go_wp2_with (obtain ⟨w11, hwS⟩ : ∃ wS, wS = (((((((w10).setCell ⟨w.heap.size, 0, none⟩ (.slice TA n tc)).setCell ⟨w.heap.size, 1, none⟩ (.int .i64 ((i10 : Nat) : Int))).setCell ⟨w.heap.size, 2, none⟩ (.slice SA ns sc)).setCell ⟨w.heap.size, 3, none⟩ (.slice EA10 ne10 ec10)).setCell ⟨w.heap.size, 4, none⟩ (.int .i64 ((d10 : Nat) : Int))).setCell ⟨w.heap.size, 5, none⟩ (.int .i64 ((c10 : Nat) : Int))).setCell ⟨w.heap.size, 6, none⟩ (.int .i64 ((p10 : Nat) : Int)) := ⟨_, rfl⟩; rw [← hwS]; have F11 := Lib.hid (F9.out.take b10 h10 hwS); have hsz : w11.heap.size = w10.heap.size := (by rw [hwS]; simp [World.setCell]); clear hwS hsz b10 h10; clear r0 r1 r2 r3 r4 r5 r6 z0 z1 z2 z3 z4 z5 z6 y0 y1 y2 y3 y4 y5 y6 x0 x1 x2 x3 x4 x5 x6 hlt0 hlt1; clear o0 o1 o2 o3 o4 o5 u0 u1 u2 u3 u4 og0 og1; obtain ⟨⟨r0, r1, r2, r3, r4, r5, r6⟩, ⟨z0, z1, z2, z3, z4, z5, z6⟩, ⟨y0, y1, y2, y3, y4, y5, y6⟩, ⟨x0, x1, x2, x3, x4, x5, x6⟩, hlt0, hlt1⟩ := F11.out.cells; obtain ⟨⟨o0, o1, o2, o3, o4, o5⟩, ⟨u0, u1, u2, u3, u4⟩, og0, og1⟩ := F11.out.outc)
 clear r0 r1 r2 r3 r4 r5 r6 z0 z1 z2 z3 z4 z5 z6 y0 y1 y2 y3 y4 y5 y6 x0 x1 x2 x3 x4 x5 x6 hlt0 hlt1
 clear o0 o1 o2 o3 o4 o5 u0 u1 u2 u3 u4 og0 og1
 refine ((allR TA tc L n SA ns sc f).j1 F11.out.st HF.out).mono ?_
 rintro e w12 ⟨v, rfl, h12, b12⟩
 rw [HX.out] at h12
 obtain ⟨i12, EA12, ne12, ec12, d12, c12, p12, rfl, h12⟩ := h12
 try simp only [HX.out]
 have F12 := Lib.hid (F11.out.call b12)
 obtain ⟨⟨r0, r1, r2, r3, r4, r5, r6⟩, ⟨z0, z1, z2, z3, z4, z5, z6⟩, ⟨y0, y1, y2, y3, y4, y5, y6⟩, ⟨x0, x1, x2, x3, x4, x5, x6⟩, hlt0, hlt1⟩ := F12.out.cells
 obtain ⟨⟨o0, o1, o2, o3, o4, o5⟩, ⟨u0, u1, u2, u3, u4⟩, og0, og1⟩ := F12.out.outc
 go_wp2_with (obtain ⟨w13, hwS⟩ : ∃ wS, wS = (((((((w12).setCell ⟨w.heap.size, 0, none⟩ (.slice TA n tc)).setCell ⟨w.heap.size, 1, none⟩ (.int .i64 ((i12 : Nat) : Int))).setCell ⟨w.heap.size, 2, none⟩ (.slice SA ns sc)).setCell ⟨w.heap.size, 3, none⟩ (.slice EA12 ne12 ec12)).setCell ⟨w.heap.size, 4, none⟩ (.int .i64 ((d12 : Nat) : Int))).setCell ⟨w.heap.size, 5, none⟩ (.int .i64 ((c12 : Nat) : Int))).setCell ⟨w.heap.size, 6, none⟩ (.int .i64 ((p12 : Nat) : Int)) := ⟨_, rfl⟩; rw [← hwS]; have F13 := Lib.hid (F11.out.take b12 h12 hwS); have hsz : w13.heap.size = w12.heap.size := (by rw [hwS]; simp [World.setCell]); obtain ⟨w14, hwX⟩ : ∃ wX, wX = w13.setCell ⟨w1.heap.size, 4, none⟩ (.int .i64 ((vx : Nat) : Int)) := ⟨_, rfl⟩; rw [← hwX]; have F14 := Lib.hid (show FR X TA L n SA ns sc tc w w14 sx i12 EA12 ne12 ec12 d12 c12 p12 #[(.slice none 0 0), (.int .i64 0), (.slice none 0 0), (.slice none 0 0), (.int .i64 0), (.int .i64 0), (.int .i64 0)] ((w1.heap.size, .cells #[.int .i64 2, .int .i64 0, .string vm, (.slice none 0 0), .int .i64 ((vx : Nat) : Int), .int .i64 ((ps : Nat) : Int)] 93) :: []) from (by rw [hwX]; exact F13.out.setOut HSA.out 4 _ rfl)); clear hwX F13; clear hwS hsz b12 h12; clear r0 r1 r2 r3 r4 r5 r6 z0 z1 z2 z3 z4 z5 z6 y0 y1 y2 y3 y4 y5 y6 x0 x1 x2 x3 x4 x5 x6 hlt0 hlt1; clear o0 o1 o2 o3 o4 o5 u0 u1 u2 u3 u4 og0 og1; obtain ⟨⟨r0, r1, r2, r3, r4, r5, r6⟩, ⟨z0, z1, z2, z3, z4, z5, z6⟩, ⟨y0, y1, y2, y3, y4, y5, y6⟩, ⟨x0, x1, x2, x3, x4, x5, x6⟩, hlt0, hlt1⟩ := F14.out.cells; obtain ⟨⟨o0, o1, o2, o3, o4, o5⟩, ⟨u0, u1, u2, u3, u4⟩, og0, og1⟩ := F14.out.outc)
 clear r0 r1 r2 r3 r4 r5 r6 z0 z1 z2 z3 z4 z5 z6 y0 y1 y2 y3 y4 y5 y6 x0 x1 x2 x3 x4 x5 x6 hlt0 hlt1
 clear o0 o1 o2 o3 o4 o5 u0 u1 u2 u3 u4 og0 og1
 refine (swant F14.out.st tc tSemi).mono ?_
 rintro e w15 ⟨v, rfl, h15, b15⟩
 rw [HZ.out] at h15
 obtain ⟨i15, EA15, ne15, ec15, d15, c15, p15, rfl, h15⟩ := h15
 try simp only [HZ.out]
 have F15 := Lib.hid (F14.out.call b15)
 obtain ⟨⟨r0, r1, r2, r3, r4, r5, r6⟩, ⟨z0, z1, z2, z3, z4, z5, z6⟩, ⟨y0, y1, y2, y3, y4, y5, y6⟩, ⟨x0, x1, x2, x3, x4, x5, x6⟩, hlt0, hlt1⟩ := F15.out.cells
 obtain ⟨⟨o0, o1, o2, o3, o4, o5⟩, ⟨u0, u1, u2, u3, u4⟩, og0, og1⟩ := F15.out.outc
 go_wp2_with (obtain ⟨w4, hwS⟩ : ∃ wS, wS = (((((((w15).setCell ⟨w.heap.size, 0, none⟩ (.slice TA n tc)).setCell ⟨w.heap.size, 1, none⟩ (.int .i64 ((i15 : Nat) : Int))).setCell ⟨w.heap.size, 2, none⟩ (.slice SA ns sc)).setCell ⟨w.heap.size, 3, none⟩ (.slice EA15 ne15 ec15)).setCell ⟨w.heap.size, 4, none⟩ (.int .i64 ((d15 : Nat) : Int))).setCell ⟨w.heap.size, 5, none⟩ (.int .i64 ((c15 : Nat) : Int))).setCell ⟨w.heap.size, 6, none⟩ (.int .i64 ((p15 : Nat) : Int)) := ⟨_, rfl⟩; rw [← hwS]; have F4 := Lib.hid (F14.out.take b15 h15 hwS); have hsz : w4.heap.size = w15.heap.size := (by rw [hwS]; simp [World.setCell]); clear hwS hsz b15 h15; clear r0 r1 r2 r3 r4 r5 r6 z0 z1 z2 z3 z4 z5 z6 y0 y1 y2 y3 y4 y5 y6 x0 x1 x2 x3 x4 x5 x6 hlt0 hlt1; clear o0 o1 o2 o3 o4 o5 u0 u1 u2 u3 u4 og0 og1; obtain ⟨⟨r0, r1, r2, r3, r4, r5, r6⟩, ⟨z0, z1, z2, z3, z4, z5, z6⟩, ⟨y0, y1, y2, y3, y4, y5, y6⟩, ⟨x0, x1, x2, x3, x4, x5, x6⟩, hlt0, hlt1⟩ := F4.out.cells; obtain ⟨⟨o0, o1, o2, o3, o4, o5⟩, ⟨u0, u1, u2, u3, u4⟩, og0, og1⟩ := F4.out.outc)
 obtain ⟨SSS, hSSS⟩ : ∃ SSS, SSS = (sz).ss := ⟨_, rfl⟩
 have HSSS := Lib.hid hSSS
 have HNN := Lib.hid (show SSS.length = ns ∧ ns < 64 from ⟨by rw [hSSS]; exact F4.out.st.ens.symm, HNS.out.2⟩)
 have hn2 : ns + 1 ≤ 1000000 := by have := HNS.out.2; omega
 have hn3 : ns ≤ 1000000 := by omega
 have HB4 := Lib.hid (show ∀ W, Below w4.heap.size w4 W → W.heap[w.heap.size]? = some (.cells #[.slice TA n tc, .int .i64 ((i15 : Nat) : Int), .slice SA ns sc, .slice EA15 ne15 ec15, .int .i64 ((d15 : Nat) : Int), .int .i64 ((c15 : Nat) : Int), .int .i64 ((p15 : Nat) : Int)] 165 (0, 0)) ∧ W.heap[w1.heap.size]? = some (.cells #[.int .i64 2, .int .i64 0, .string vm, (.slice none 0 0), .int .i64 ((vx : Nat) : Int), .int .i64 ((ps : Nat) : Int)] 93 (0, 0)) ∧ W.heap[w.heap.size + 1]? = some (.cells #[(.slice none 0 0), (.int .i64 0), (.slice none 0 0), (.slice none 0 0), (.int .i64 0), (.int .i64 0), (.int .i64 0)] 165 (0, 0)) ∧ w.heap.size + 1 < W.heap.size ∧ w1.heap.size < W.heap.size from fun W hW => by
  have hF := F4.out.call hW
  have hx := hF.ex _ (List.mem_cons_self ..)
  exact ⟨hF.bx.k0, hx.2, hF.bx.k1, hF.bx.lt, (Array.getElem?_eq_some_iff.1 hx.2).1⟩)
 have HS4 := Lib.hid (show ∀ W, Below w4.heap.size w4 W → OwnSX X W 0 SA sc SSS from fun W hW => by
  rw [HSSS.out]
  exact ((F4.out.call hW).st.rr.ownS).re fun k hk => .inl ((fun k hk => hk) k hk))
 have HV4 := Lib.hid (show ∀ W, Below w4.heap.size w4 W → ArgsV X 0 W (.slice none 0 0) (⟨2, 0, vm, [], vx, ps⟩ : Sm).shape from fun W hW => ArgsV.nil _ _ _)
 clear hSSS
 go_region_law (first | (have u1 := HS4.out ((w4.alloc (.cells #[] 93)).drew) ((one_new w4 (.cells #[] 93)).drew); have u2 : ((w4.alloc (.cells #[] 93)).drew).heap[w4.heap.size]? = some (.cells #[] 93 (0, 0)) := heap_alloc_new w4 (.cells #[] 93); have u3 := ((one_new w4 (.cells #[] 93)).drew).size; refine @appS0_step X ((w4.alloc (.cells #[] 93)).drew) _ _ _ _ _ _ rfl (.tmp 102) (.tmp 105) ?_ w4.heap.size w4.heap.size ?_ SA sc ns SSS ?_ ?_ ?_ ?_ ?_ ?_ ?_ ?_; rfl; rfl; exact HNN.out.1; rfl; exact u1; exact u2; exact Nat.le_refl _; exact u3; exact hn3; clear u1 u2 u3; intro A1 k1 w5 ho1 hb1 hA1; have b5 : Below w4.heap.size w4 w5 := bnext ((one_new w4 (.cells #[] 93)).drew) hb1; obtain ⟨p0, p1, p2, p3, p4⟩ := HB4.out w5 b5; obtain ⟨o0, o1, o2, o3, o4, o5⟩ := cells6 p1; have hlt5 : w1.heap.size < w5.heap.size := p4; clear p0 p1 p2 p3) | (have u1 := HS4.out (((w4.alloc (.cells #[] 93)).alloc (.cells #[.int .i64 2, .int .i64 0, .string vm, (.slice none 0 0), .int .i64 ((vx : Nat) : Int), .int .i64 ((ps : Nat) : Int)] 93)).drew) ((al_two w4 (.cells #[] 93) (.cells #[.int .i64 2, .int .i64 0, .string vm, (.slice none 0 0), .int .i64 ((vx : Nat) : Int), .int .i64 ((ps : Nat) : Int)] 93)).drew); have u2 : (((w4.alloc (.cells #[] 93)).alloc (.cells #[.int .i64 2, .int .i64 0, .string vm, (.slice none 0 0), .int .i64 ((vx : Nat) : Int), .int .i64 ((ps : Nat) : Int)] 93)).drew).heap[w4.heap.size]? = some (.cells #[] 93 (0, 0)) := al_old w4 #[] 93 (.cells #[.int .i64 2, .int .i64 0, .string vm, (.slice none 0 0), .int .i64 ((vx : Nat) : Int), .int .i64 ((ps : Nat) : Int)] 93); have u3 := ((al_two w4 (.cells #[] 93) (.cells #[.int .i64 2, .int .i64 0, .string vm, (.slice none 0 0), .int .i64 ((vx : Nat) : Int), .int .i64 ((ps : Nat) : Int)] 93)).drew).size; refine @appS0_step X (((w4.alloc (.cells #[] 93)).alloc (.cells #[.int .i64 2, .int .i64 0, .string vm, (.slice none 0 0), .int .i64 ((vx : Nat) : Int), .int .i64 ((ps : Nat) : Int)] 93)).drew) _ _ _ _ _ _ rfl (.tmp 102) (.tmp 105) ?_ w4.heap.size w4.heap.size ?_ SA sc ns SSS ?_ ?_ ?_ ?_ ?_ ?_ ?_ ?_; rfl; rfl; exact HNN.out.1; rfl; exact u1; exact u2; exact Nat.le_refl _; exact u3; exact hn3; clear u1 u2 u3; intro A1 k1 w5 ho1 hb1 hA1; have b5 : Below w4.heap.size w4 w5 := bnext ((al_two w4 (.cells #[] 93) (.cells #[.int .i64 2, .int .i64 0, .string vm, (.slice none 0 0), .int .i64 ((vx : Nat) : Int), .int .i64 ((ps : Nat) : Int)] 93)).drew) hb1; obtain ⟨p0, p1, p2, p3, p4⟩ := HB4.out w5 b5; obtain ⟨o0, o1, o2, o3, o4, o5⟩ := cells6 p1; have hlt5 : w1.heap.size < w5.heap.size := p4; have hE5 : w5.heap[w4.heap.size + 1]? = some (.cells #[.int .i64 2, .int .i64 0, .string vm, (.slice none 0 0), .int .i64 ((vx : Nat) : Int), .int .i64 ((ps : Nat) : Int)] 93 (0, 0)) := bl_on (w := ((w4.alloc (.cells #[] 93)).alloc (.cells #[.int .i64 2, .int .i64 0, .string vm, (.slice none 0 0), .int .i64 ((vx : Nat) : Int), .int .i64 ((ps : Nat) : Int)] 93)).drew) (show (((w4.alloc (.cells #[] 93)).alloc (.cells #[.int .i64 2, .int .i64 0, .string vm, (.slice none 0 0), .int .i64 ((vx : Nat) : Int), .int .i64 ((ps : Nat) : Int)] 93)).drew).heap[w4.heap.size + 1]? = some (.cells #[.int .i64 2, .int .i64 0, .string vm, (.slice none 0 0), .int .i64 ((vx : Nat) : Int), .int .i64 ((ps : Nat) : Int)] 93 (0, 0)) from al_new2 w4 #[.int .i64 2, .int .i64 0, .string vm, (.slice none 0 0), .int .i64 ((vx : Nat) : Int), .int .i64 ((ps : Nat) : Int)] 93 (.cells #[] 93)) hb1; clear p0 p1 p2 p3) | (have u1 := HS4.out (((w4.alloc (.cells #[.int .i64 2, .int .i64 0, .string vm, (.slice none 0 0), .int .i64 ((vx : Nat) : Int), .int .i64 ((ps : Nat) : Int)] 93)).alloc (.cells #[] 93)).drew) ((al_two w4 (.cells #[.int .i64 2, .int .i64 0, .string vm, (.slice none 0 0), .int .i64 ((vx : Nat) : Int), .int .i64 ((ps : Nat) : Int)] 93) (.cells #[] 93)).drew); have u2 : (((w4.alloc (.cells #[.int .i64 2, .int .i64 0, .string vm, (.slice none 0 0), .int .i64 ((vx : Nat) : Int), .int .i64 ((ps : Nat) : Int)] 93)).alloc (.cells #[] 93)).drew).heap[(w4.heap.size + 1)]? = some (.cells #[] 93 (0, 0)) := al_new2 w4 #[] 93 (.cells #[.int .i64 2, .int .i64 0, .string vm, (.slice none 0 0), .int .i64 ((vx : Nat) : Int), .int .i64 ((ps : Nat) : Int)] 93); have u3 := ((al_two w4 (.cells #[.int .i64 2, .int .i64 0, .string vm, (.slice none 0 0), .int .i64 ((vx : Nat) : Int), .int .i64 ((ps : Nat) : Int)] 93) (.cells #[] 93)).drew).size; refine @appS0_step X (((w4.alloc (.cells #[.int .i64 2, .int .i64 0, .string vm, (.slice none 0 0), .int .i64 ((vx : Nat) : Int), .int .i64 ((ps : Nat) : Int)] 93)).alloc (.cells #[] 93)).drew) _ _ _ _ _ _ rfl (.tmp 102) (.tmp 105) ?_ w4.heap.size (w4.heap.size + 1) ?_ SA sc ns SSS ?_ ?_ ?_ ?_ ?_ ?_ ?_ ?_; rfl; rfl; exact HNN.out.1; rfl; exact u1; exact u2; exact Nat.le_succ _; exact u3; exact hn3; clear u1 u2 u3; intro A1 k1 w5 ho1 hb1 hA1; have b5 : Below w4.heap.size w4 w5 := bnext ((al_two w4 (.cells #[.int .i64 2, .int .i64 0, .string vm, (.slice none 0 0), .int .i64 ((vx : Nat) : Int), .int .i64 ((ps : Nat) : Int)] 93) (.cells #[] 93)).drew) hb1; obtain ⟨p0, p1, p2, p3, p4⟩ := HB4.out w5 b5; obtain ⟨o0, o1, o2, o3, o4, o5⟩ := cells6 p1; have hlt5 : w1.heap.size < w5.heap.size := p4; have hE5 : w5.heap[w4.heap.size]? = some (.cells #[.int .i64 2, .int .i64 0, .string vm, (.slice none 0 0), .int .i64 ((vx : Nat) : Int), .int .i64 ((ps : Nat) : Int)] 93 (0, 0)) := bl_on (w := ((w4.alloc (.cells #[.int .i64 2, .int .i64 0, .string vm, (.slice none 0 0), .int .i64 ((vx : Nat) : Int), .int .i64 ((ps : Nat) : Int)] 93)).alloc (.cells #[] 93)).drew) (show (((w4.alloc (.cells #[.int .i64 2, .int .i64 0, .string vm, (.slice none 0 0), .int .i64 ((vx : Nat) : Int), .int .i64 ((ps : Nat) : Int)] 93)).alloc (.cells #[] 93)).drew).heap[w4.heap.size]? = some (.cells #[.int .i64 2, .int .i64 0, .string vm, (.slice none 0 0), .int .i64 ((vx : Nat) : Int), .int .i64 ((ps : Nat) : Int)] 93 (0, 0)) from al_old w4 #[.int .i64 2, .int .i64 0, .string vm, (.slice none 0 0), .int .i64 ((vx : Nat) : Int), .int .i64 ((ps : Nat) : Int)] 93 (.cells #[] 93)) hb1; clear p0 p1 p2 p3) | (have u1 := ho1.next (one_new w5 (.cells #[.int .i64 2, .int .i64 0, .string vm, (.slice none 0 0), .int .i64 ((vx : Nat) : Int), .int .i64 ((ps : Nat) : Int)] 93)); have u2 : (w5.alloc (.cells #[.int .i64 2, .int .i64 0, .string vm, (.slice none 0 0), .int .i64 ((vx : Nat) : Int), .int .i64 ((ps : Nat) : Int)] 93)).heap[w5.heap.size]? = some (.cells #[.int .i64 2, .int .i64 0, .string vm, (.slice none 0 0), .int .i64 ((vx : Nat) : Int), .int .i64 ((ps : Nat) : Int)] 93 (0, 0)) := heap_alloc_new w5 (.cells #[.int .i64 2, .int .i64 0, .string vm, (.slice none 0 0), .int .i64 ((vx : Nat) : Int), .int .i64 ((ps : Nat) : Int)] 93); have u3 := HV4.out (w5.alloc (.cells #[.int .i64 2, .int .i64 0, .string vm, (.slice none 0 0), .int .i64 ((vx : Nat) : Int), .int .i64 ((ps : Nat) : Int)] 93)) (bnext b5 (one_new w5 (.cells #[.int .i64 2, .int .i64 0, .string vm, (.slice none 0 0), .int .i64 ((vx : Nat) : Int), .int .i64 ((ps : Nat) : Int)] 93))); refine @appS_step X (w5.alloc (.cells #[.int .i64 2, .int .i64 0, .string vm, (.slice none 0 0), .int .i64 ((vx : Nat) : Int), .int .i64 ((ps : Nat) : Int)] 93)) _ _ _ _ _ _ rfl (.tmp 106) (.tmp 108) ?_ 0 A1 k1 SSS ns ?_ ?_ ?_ w5.heap.size ?_ (⟨2, 0, vm, [], vx, ps⟩, (.slice none 0 0)) ?_ ?_ ?_ ?_ ?_; rfl; exact HNN.out.1; rfl; exact u1; rfl; exact u2; exact u3; exact hn2; exact Nat.zero_le _; clear u1 u2 u3; intro A2 k2 w6 ho2 hg2; have b6 : Below w4.heap.size w4 w6 := (bnext b5 (one_new w5 (.cells #[.int .i64 2, .int .i64 0, .string vm, (.slice none 0 0), .int .i64 ((vx : Nat) : Int), .int .i64 ((ps : Nat) : Int)] 93))).grown hg2 ((bnext b5 (one_new w5 (.cells #[.int .i64 2, .int .i64 0, .string vm, (.slice none 0 0), .int .i64 ((vx : Nat) : Int), .int .i64 ((ps : Nat) : Int)] 93))).size) (fun k hk => hA1 k hk); obtain ⟨p0, p1, p2, p3, p4⟩ := HB4.out w6 b6; obtain ⟨r0, r1, r2, r3, r4, r5, r6⟩ := cells7 p0; obtain ⟨y0, y1, y2, y3, y4, y5, y6⟩ := frees7 p0; obtain ⟨z0, z1, z2, z3, z4, z5, z6⟩ := cells7 p2; obtain ⟨x0, x1, x2, x3, x4, x5, x6⟩ := frees7 p2; have hl6 : w.heap.size + 1 < w6.heap.size := p3; have hl7 : w.heap.size < w6.heap.size := Nat.lt_trans (Nat.lt_succ_self _) p3; have HB6 := Lib.hid b6; have HO6 := Lib.hid ho2; clear p0 p1 p2 p3 p4 ho2 hg2 b6) | (have u1 := ho1; have u2 : (w5).heap[(w4.heap.size + 1)]? = some (.cells #[.int .i64 2, .int .i64 0, .string vm, (.slice none 0 0), .int .i64 ((vx : Nat) : Int), .int .i64 ((ps : Nat) : Int)] 93 (0, 0)) := hE5; have u3 := HV4.out w5 b5; refine @appS_step X (w5) _ _ _ _ _ _ rfl (.tmp 106) (.tmp 108) ?_ 0 A1 k1 SSS ns ?_ ?_ ?_ (w4.heap.size + 1) ?_ (⟨2, 0, vm, [], vx, ps⟩, (.slice none 0 0)) ?_ ?_ ?_ ?_ ?_; rfl; exact HNN.out.1; rfl; exact u1; rfl; exact u2; exact u3; exact hn2; exact Nat.zero_le _; clear u1 u2 u3; intro A2 k2 w6 ho2 hg2; have b6 : Below w4.heap.size w4 w6 := (b5).grown hg2 (b5.size) (fun k hk => hA1 k hk); obtain ⟨p0, p1, p2, p3, p4⟩ := HB4.out w6 b6; obtain ⟨r0, r1, r2, r3, r4, r5, r6⟩ := cells7 p0; obtain ⟨y0, y1, y2, y3, y4, y5, y6⟩ := frees7 p0; obtain ⟨z0, z1, z2, z3, z4, z5, z6⟩ := cells7 p2; obtain ⟨x0, x1, x2, x3, x4, x5, x6⟩ := frees7 p2; have hl6 : w.heap.size + 1 < w6.heap.size := p3; have hl7 : w.heap.size < w6.heap.size := Nat.lt_trans (Nat.lt_succ_self _) p3; have HB6 := Lib.hid b6; have HO6 := Lib.hid ho2; clear p0 p1 p2 p3 p4 ho2 hg2 b6) | (have u1 := ho1; have u2 : (w5).heap[w4.heap.size]? = some (.cells #[.int .i64 2, .int .i64 0, .string vm, (.slice none 0 0), .int .i64 ((vx : Nat) : Int), .int .i64 ((ps : Nat) : Int)] 93 (0, 0)) := hE5; have u3 := HV4.out w5 b5; refine @appS_step X (w5) _ _ _ _ _ _ rfl (.tmp 106) (.tmp 108) ?_ 0 A1 k1 SSS ns ?_ ?_ ?_ w4.heap.size ?_ (⟨2, 0, vm, [], vx, ps⟩, (.slice none 0 0)) ?_ ?_ ?_ ?_ ?_; rfl; exact HNN.out.1; rfl; exact u1; rfl; exact u2; exact u3; exact hn2; exact Nat.zero_le _; clear u1 u2 u3; intro A2 k2 w6 ho2 hg2; have b6 : Below w4.heap.size w4 w6 := (b5).grown hg2 (b5.size) (fun k hk => hA1 k hk); obtain ⟨p0, p1, p2, p3, p4⟩ := HB4.out w6 b6; obtain ⟨r0, r1, r2, r3, r4, r5, r6⟩ := cells7 p0; obtain ⟨y0, y1, y2, y3, y4, y5, y6⟩ := frees7 p0; obtain ⟨z0, z1, z2, z3, z4, z5, z6⟩ := cells7 p2; obtain ⟨x0, x1, x2, x3, x4, x5, x6⟩ := frees7 p2; have hl6 : w.heap.size + 1 < w6.heap.size := p3; have hl7 : w.heap.size < w6.heap.size := Nat.lt_trans (Nat.lt_succ_self _) p3; have HB6 := Lib.hid b6; have HO6 := Lib.hid ho2; clear p0 p1 p2 p3 p4 ho2 hg2 b6))
 all_goals
  go_wp2
  obtain ⟨wS, hwS⟩ : ∃ wS, wS = ((((((((w6.setCell ⟨w.heap.size, 2, none⟩ (.slice A2 (ns + 1) k2))).setCell ⟨w.heap.size + 1, 0, none⟩ (.slice TA n tc)).setCell ⟨w.heap.size + 1, 1, none⟩ (.int .i64 ((i15 : Nat) : Int))).setCell ⟨w.heap.size + 1, 2, none⟩ (.slice A2 (ns + 1) k2)).setCell ⟨w.heap.size + 1, 3, none⟩ (.slice EA15 ne15 ec15)).setCell ⟨w.heap.size + 1, 4, none⟩ (.int .i64 ((d15 : Nat) : Int))).setCell ⟨w.heap.size + 1, 5, none⟩ (.int .i64 ((c15 : Nat) : Int))).setCell ⟨w.heap.size + 1, 6, none⟩ (.int .i64 ((p15 : Nat) : Int)) := ⟨_, rfl⟩
  rw [← hwS]
  obtain ⟨f1, f2, f3⟩ := FR.putS (X := X) (n2 := ns + 1) (x := ⟨2, 0, vm, [], vx, ps⟩) F4.out (fun k hk => hk) HB6.out (by rw [← HSSS.out]; exact HO6.out) (by rw [← HSSS.out]; have := HNN.out; omega) rfl hwS
  obtain ⟨g0, g1, g2, g3, g4, g5, g6⟩ := cells7 f1
  clear hwS f1
  exact bodyPost_ret (v := .agg #[.slice TA n tc, .int .i64 ((i15 : Nat) : Int), .slice A2 (ns + 1) k2, .slice EA15 ne15 ec15, .int .i64 ((d15 : Nat) : Int), .int .i64 ((c15 : Nat) : Int), .int .i64 ((p15 : Nat) : Int)]) (by simp [results, Tryz.results88, go_sem, g0, g1, g2, g3, g4, g5, g6]) rfl ⟨_, A2, ns + 1, k2, rfl, by rw [HR.out]; exact f2.ro, f3⟩
end
end Go.Proofs.YtghlnncfigkkaaaGreatDoor
