/-
  The reference's statements: an input.
-/
import Derived.Test.YtghlnncfigkkaaaGreatDoorQRefL
namespace Go.Proofs.YtghlnncfigkkaaaGreatDoor
set_option linter.unusedVariables false
set_option linter.unusedSimpArgs false
open Go.RowKit
attribute [local go_sem ↓] tok_field3 tok_field0
section
variable {X Y : Nat → Prop} {TA SA : Option Addr} {tc n ns sc : Nat} {L : List Tok} {s s' : PS} {w : World} {i ne ec d c p : Nat} {EA : Option Addr}
set_option maxRecDepth 100000 in
set_option maxHeartbeats 12000000 in
theorem rstmt_in (f : Nat) (h : ST X TA L s w n SA ns sc i EA ne ec d c p) (hf : 12 * L.length + 20 ≤ f) (hl : s.ss.length ≠ 64) (hq1 : isP L s tInput = true) :
  Calls Tryz.prog 88 #[.agg #[.slice TA n tc, .int .i64 ((i : Nat) : Int), .slice SA ns sc, .slice EA ne ec, .int .i64 ((d : Nat) : Int), .int .i64 ((c : Nat) : Int), .int .i64 ((p : Nat) : Int)]] w (RSt X TA tc L n w (rstmtP L f s)) := by
 have F0 := Lib.hid (FR.made (tc := tc) h #[(.slice none 0 0), (.int .i64 0), (.slice none 0 0), (.slice none 0 0), (.int .i64 0), (.int .i64 0), (.int .i64 0)])
 obtain ⟨kd, tx, nm, ps, hnow⟩ : ∃ kd tx nm ps, nowP L s = ⟨kd, tx, nm, ps⟩ := ⟨_, _, _, _, rfl⟩
 obtain ⟨e1, e2, e3, e4, e5, e6⟩ := h.el
 have hens := h.ens
 have hsl := h.rr.sl
 have HNOW := Lib.hid hnow
 have HSA0 := Lib.hid h.sa
 have q64 : decide ((64 : Int) ≤ (ns : Int)) = false := by rw [decide_eq_false_iff_not]; omega
 have HNS := Lib.hid (show ns = s.ss.length ∧ ns < 64 from by omega)
 obtain ⟨sn, vn, hN⟩ : ∃ sn vn, numberP L (advP s) = (sn, vn) := ⟨_, _, rfl⟩
 obtain ⟨sm, vm, hM⟩ : ∃ sm vm, nameP L sn = (sm, vm) := ⟨_, _, rfl⟩
 obtain ⟨sb, hB⟩ : ∃ sb, wantP L sm tBra = sb := ⟨_, rfl⟩
 obtain ⟨R, hRR⟩ : ∃ R, rshapeP L (f + 1) sb [] = R := ⟨_, rfl⟩
 obtain ⟨sk, hK⟩ : ∃ sk, wantP L R.1 tKet = sk := ⟨_, rfl⟩
 obtain ⟨sz, hz⟩ : ∃ sz, wantP L sk tSemi = sz := ⟨_, rfl⟩
 have HR := Lib.hid (show rstmtP L f s = putS sz ⟨1, vn, vm, R.2, 0, ps⟩ from by unfold rstmtP; rw [if_neg hl]; simp only [hq1, hN, hM, hB, hRR, hK, hz, hnow]; rfl)
 have HK0 := Lib.hid (show KSh L R 0 sb [] from ⟨rfl, Nat.zero_le _, fun _ => Nat.zero_le _, f + 1, hRR.symm, fun _ => by omega, by omega⟩)
 have HQ1 := Lib.hid hq1
 have HN := Lib.hid hN
 have HM := Lib.hid hM
 have HB := Lib.hid hB
 have HKO := Lib.hid hK
 have HZ := Lib.hid hz
 have HXX := Lib.hid h.rr.xx
 have HEN := Lib.hid h.en
 have HLT := Lib.hid (isP_lt hq1)
 have HIA := Lib.hid (show i ≤ 1000 from by omega)
 clear h hf hnow e1 e2 e3 e4 e5 e6 hens hsl hl hq1 hN hM hB hRR hK hz
 go_enter Tryz.func88, Tryz.ntmps88
 go_wp2_with fail
 refine (snow F0.out.st tc HNOW.out).mono ?_
 rintro e w1 ⟨rfl, b1⟩
 have F1 := Lib.hid (F0.out.call b1)
 clear b1
 obtain ⟨⟨r0, r1, r2, r3, r4, r5, r6⟩, ⟨z0, z1, z2, z3, z4, z5, z6⟩, ⟨y0, y1, y2, y3, y4, y5, y6⟩, ⟨x0, x1, x2, x3, x4, x5, x6⟩, hlt0, hlt1⟩ := F1.out.cells
 go_wp2_with fail
 obtain ⟨w2, hw2⟩ : ∃ w2, w2 = w1.alloc (.cells #[.int .i64 0, .int .i64 0, .string ⟨#[]⟩, (.slice none 0 0), .int .i64 0, .int .i64 ((ps : Nat) : Int)] 93) := ⟨_, rfl⟩
 have F2 := Lib.hid (show FR X TA L n SA ns sc tc w w2 s i EA ne ec d c p #[(.slice none 0 0), (.int .i64 0), (.slice none 0 0), (.slice none 0 0), (.int .i64 0), (.int .i64 0), (.int .i64 0)] ((w1.heap.size, .cells #[.int .i64 0, .int .i64 0, .string ⟨#[]⟩, (.slice none 0 0), .int .i64 0, .int .i64 ((ps : Nat) : Int)] 93) :: []) from by rw [hw2]; exact F1.out.alloc _)
 have HSA := Lib.hid (show ∀ k, blk SA = some k → k ≠ w1.heap.size from fun k hk => by have h1 := HSA0.out k hk; have h2 := F1.out.bx.lt; omega)
 try rw [← hw2]
 clear r0 r1 r2 r3 r4 r5 r6 z0 z1 z2 z3 z4 z5 z6 y0 y1 y2 y3 y4 y5 y6 x0 x1 x2 x3 x4 x5 x6 hlt0 hlt1
 clear hw2 F1
 have hia : i ≤ 1000 := HIA.out
 refine (sis F2.out.st tc _ HQ1.out).mono ?_
 rintro e w5 ⟨rfl, bq⟩
 have F5 := Lib.hid (F2.out.call bq)
 clear bq F2
 obtain ⟨⟨r0, r1, r2, r3, r4, r5, r6⟩, ⟨z0, z1, z2, z3, z4, z5, z6⟩, ⟨y0, y1, y2, y3, y4, y5, y6⟩, ⟨x0, x1, x2, x3, x4, x5, x6⟩, hlt0, hlt1⟩ := F5.out.cells
 obtain ⟨⟨o0, o1, o2, o3, o4, o5⟩, ⟨u0, u1, u2, u3, u4⟩, og0, og1⟩ := F5.out.outc
 go_wp2_with fail
 have q64' := q64
 obtain ⟨i6, hi6⟩ : ∃ i6, i6 = i + 1 := ⟨_, rfl⟩
 obtain ⟨w6, hw6⟩ : ∃ w6, w6 = (w5.setCell ⟨w.heap.size, 1, none⟩ (.int .i64 ((i : Int) + 1))).setCell ⟨w1.heap.size, 0, none⟩ (.int .i64 1) := ⟨_, rfl⟩
 have F6 := Lib.hid (show FR X TA L n SA ns sc tc w w6 (advP s) i6 EA ne ec d c p #[(.slice none 0 0), (.int .i64 0), (.slice none 0 0), (.slice none 0 0), (.int .i64 0), (.int .i64 0), (.int .i64 0)] ((w1.heap.size, .cells #[.int .i64 1, .int .i64 0, .string ⟨#[]⟩, (.slice none 0 0), .int .i64 0, .int .i64 ((ps : Nat) : Int)] 93) :: []) from by rw [hw6]; exact (F5.out.adv HLT.out hi6).setOut HSA.out 0 _ rfl)
 have h6i : ((i : Int) + 1) = ((i6 : Nat) : Int) := by rw [hi6]; rfl
 try rw [← hw6]
 try simp only [h6i]
 clear hw6 h6i hi6 hia q64' F5
 clear r0 r1 r2 r3 r4 r5 r6 z0 z1 z2 z3 z4 z5 z6 y0 y1 y2 y3 y4 y5 y6 x0 x1 x2 x3 x4 x5 x6 hlt0 hlt1
 clear o0 o1 o2 o3 o4 o5 u0 u1 u2 u3 u4 og0 og1
 refine (snumber F6.out.st tc).mono ?_
 rintro e w7 ⟨v, rfl, h7, b7⟩
 rw [HN.out] at h7
 obtain ⟨i7, EA7, ne7, ec7, d7, c7, p7, rfl, h7⟩ := h7
 try simp only [HN.out]
 have F7 := Lib.hid (F6.out.call b7)
 obtain ⟨⟨r0, r1, r2, r3, r4, r5, r6⟩, ⟨z0, z1, z2, z3, z4, z5, z6⟩, ⟨y0, y1, y2, y3, y4, y5, y6⟩, ⟨x0, x1, x2, x3, x4, x5, x6⟩, hlt0, hlt1⟩ := F7.out.cells
 obtain ⟨⟨o0, o1, o2, o3, o4, o5⟩, ⟨u0, u1, u2, u3, u4⟩, og0, og1⟩ := F7.out.outc
 go_wp2_with (obtain ⟨w8, hwS⟩ : ∃ wS, wS = (((((((w7).setCell ⟨w.heap.size, 0, none⟩ (.slice TA n tc)).setCell ⟨w.heap.size, 1, none⟩ (.int .i64 ((i7 : Nat) : Int))).setCell ⟨w.heap.size, 2, none⟩ (.slice SA ns sc)).setCell ⟨w.heap.size, 3, none⟩ (.slice EA7 ne7 ec7)).setCell ⟨w.heap.size, 4, none⟩ (.int .i64 ((d7 : Nat) : Int))).setCell ⟨w.heap.size, 5, none⟩ (.int .i64 ((c7 : Nat) : Int))).setCell ⟨w.heap.size, 6, none⟩ (.int .i64 ((p7 : Nat) : Int)) := ⟨_, rfl⟩; rw [← hwS]; have F8 := Lib.hid (F6.out.take b7 h7 hwS); have hsz : w8.heap.size = w7.heap.size := (by rw [hwS]; simp [World.setCell]); obtain ⟨w9, hwX⟩ : ∃ wX, wX = w8.setCell ⟨w1.heap.size, 1, none⟩ (.int .i64 ((vn : Nat) : Int)) := ⟨_, rfl⟩; rw [← hwX]; have F9 := Lib.hid (show FR X TA L n SA ns sc tc w w9 sn i7 EA7 ne7 ec7 d7 c7 p7 #[(.slice none 0 0), (.int .i64 0), (.slice none 0 0), (.slice none 0 0), (.int .i64 0), (.int .i64 0), (.int .i64 0)] ((w1.heap.size, .cells #[.int .i64 1, .int .i64 ((vn : Nat) : Int), .string ⟨#[]⟩, (.slice none 0 0), .int .i64 0, .int .i64 ((ps : Nat) : Int)] 93) :: []) from (by rw [hwX]; exact F8.out.setOut HSA.out 1 _ rfl)); clear hwX F8; clear hwS hsz b7 h7; clear r0 r1 r2 r3 r4 r5 r6 z0 z1 z2 z3 z4 z5 z6 y0 y1 y2 y3 y4 y5 y6 x0 x1 x2 x3 x4 x5 x6 hlt0 hlt1; clear o0 o1 o2 o3 o4 o5 u0 u1 u2 u3 u4 og0 og1; obtain ⟨⟨r0, r1, r2, r3, r4, r5, r6⟩, ⟨z0, z1, z2, z3, z4, z5, z6⟩, ⟨y0, y1, y2, y3, y4, y5, y6⟩, ⟨x0, x1, x2, x3, x4, x5, x6⟩, hlt0, hlt1⟩ := F9.out.cells; obtain ⟨⟨o0, o1, o2, o3, o4, o5⟩, ⟨u0, u1, u2, u3, u4⟩, og0, og1⟩ := F9.out.outc)
 clear r0 r1 r2 r3 r4 r5 r6 z0 z1 z2 z3 z4 z5 z6 y0 y1 y2 y3 y4 y5 y6 x0 x1 x2 x3 x4 x5 x6 hlt0 hlt1
 clear o0 o1 o2 o3 o4 o5 u0 u1 u2 u3 u4 og0 og1
 refine (sname F9.out.st tc).mono ?_
 rintro e w10 ⟨v, rfl, h10, b10⟩
 rw [HM.out] at h10
 obtain ⟨i10, EA10, ne10, ec10, d10, c10, p10, rfl, h10⟩ := h10
 try simp only [HM.out]
 have F10 := Lib.hid (F9.out.call b10)
 obtain ⟨⟨r0, r1, r2, r3, r4, r5, r6⟩, ⟨z0, z1, z2, z3, z4, z5, z6⟩, ⟨y0, y1, y2, y3, y4, y5, y6⟩, ⟨x0, x1, x2, x3, x4, x5, x6⟩, hlt0, hlt1⟩ := F10.out.cells
 obtain ⟨⟨o0, o1, o2, o3, o4, o5⟩, ⟨u0, u1, u2, u3, u4⟩, og0, og1⟩ := F10.out.outc
 go_wp2_with (obtain ⟨w11, hwS⟩ : ∃ wS, wS = (((((((w10).setCell ⟨w.heap.size, 0, none⟩ (.slice TA n tc)).setCell ⟨w.heap.size, 1, none⟩ (.int .i64 ((i10 : Nat) : Int))).setCell ⟨w.heap.size, 2, none⟩ (.slice SA ns sc)).setCell ⟨w.heap.size, 3, none⟩ (.slice EA10 ne10 ec10)).setCell ⟨w.heap.size, 4, none⟩ (.int .i64 ((d10 : Nat) : Int))).setCell ⟨w.heap.size, 5, none⟩ (.int .i64 ((c10 : Nat) : Int))).setCell ⟨w.heap.size, 6, none⟩ (.int .i64 ((p10 : Nat) : Int)) := ⟨_, rfl⟩; rw [← hwS]; have F11 := Lib.hid (F9.out.take b10 h10 hwS); have hsz : w11.heap.size = w10.heap.size := (by rw [hwS]; simp [World.setCell]); obtain ⟨w12, hwX⟩ : ∃ wX, wX = w11.setCell ⟨w1.heap.size, 2, none⟩ (.string vm) := ⟨_, rfl⟩; rw [← hwX]; have F12 := Lib.hid (show FR X TA L n SA ns sc tc w w12 sm i10 EA10 ne10 ec10 d10 c10 p10 #[(.slice none 0 0), (.int .i64 0), (.slice none 0 0), (.slice none 0 0), (.int .i64 0), (.int .i64 0), (.int .i64 0)] ((w1.heap.size, .cells #[.int .i64 1, .int .i64 ((vn : Nat) : Int), .string vm, (.slice none 0 0), .int .i64 0, .int .i64 ((ps : Nat) : Int)] 93) :: []) from (by rw [hwX]; exact F11.out.setOut HSA.out 2 _ rfl)); clear hwX F11; clear hwS hsz b10 h10; clear r0 r1 r2 r3 r4 r5 r6 z0 z1 z2 z3 z4 z5 z6 y0 y1 y2 y3 y4 y5 y6 x0 x1 x2 x3 x4 x5 x6 hlt0 hlt1; clear o0 o1 o2 o3 o4 o5 u0 u1 u2 u3 u4 og0 og1; obtain ⟨⟨r0, r1, r2, r3, r4, r5, r6⟩, ⟨z0, z1, z2, z3, z4, z5, z6⟩, ⟨y0, y1, y2, y3, y4, y5, y6⟩, ⟨x0, x1, x2, x3, x4, x5, x6⟩, hlt0, hlt1⟩ := F12.out.cells; obtain ⟨⟨o0, o1, o2, o3, o4, o5⟩, ⟨u0, u1, u2, u3, u4⟩, og0, og1⟩ := F12.out.outc)
 clear r0 r1 r2 r3 r4 r5 r6 z0 z1 z2 z3 z4 z5 z6 y0 y1 y2 y3 y4 y5 y6 x0 x1 x2 x3 x4 x5 x6 hlt0 hlt1
 clear o0 o1 o2 o3 o4 o5 u0 u1 u2 u3 u4 og0 og1
 refine (swant F12.out.st tc tBra).mono ?_
 rintro e w13 ⟨v, rfl, h13, b13⟩
 rw [HB.out] at h13
 obtain ⟨i13, EA13, ne13, ec13, d13, c13, p13, rfl, h13⟩ := h13
 try simp only [HB.out]
 have F13 := Lib.hid (F12.out.call b13)
 obtain ⟨⟨r0, r1, r2, r3, r4, r5, r6⟩, ⟨z0, z1, z2, z3, z4, z5, z6⟩, ⟨y0, y1, y2, y3, y4, y5, y6⟩, ⟨x0, x1, x2, x3, x4, x5, x6⟩, hlt0, hlt1⟩ := F13.out.cells
 obtain ⟨⟨o0, o1, o2, o3, o4, o5⟩, ⟨u0, u1, u2, u3, u4⟩, og0, og1⟩ := F13.out.outc
 go_wp2
 obtain ⟨w14, hwS⟩ : ∃ wS, wS = (((((((w13).setCell ⟨w.heap.size, 0, none⟩ (.slice TA n tc)).setCell ⟨w.heap.size, 1, none⟩ (.int .i64 ((i13 : Nat) : Int))).setCell ⟨w.heap.size, 2, none⟩ (.slice SA ns sc)).setCell ⟨w.heap.size, 3, none⟩ (.slice EA13 ne13 ec13)).setCell ⟨w.heap.size, 4, none⟩ (.int .i64 ((d13 : Nat) : Int))).setCell ⟨w.heap.size, 5, none⟩ (.int .i64 ((c13 : Nat) : Int))).setCell ⟨w.heap.size, 6, none⟩ (.int .i64 ((p13 : Nat) : Int)) := ⟨_, rfl⟩
 rw [← hwS]
 have F14 := Lib.hid (F12.out.take b13 h13 hwS)
 clear hwS b13 h13
 clear r0 r1 r2 r3 r4 r5 r6 z0 z1 z2 z3 z4 z5 z6 y0 y1 y2 y3 y4 y5 y6 x0 x1 x2 x3 x4 x5 x6 hlt0 hlt1
 clear o0 o1 o2 o3 o4 o5 u0 u1 u2 u3 u4 og0 og1
 clear F13 F12
 have HLB := Lib.hid (show w.heap.size + 1 < w14.heap.size ∧ w1.heap.size < w14.heap.size from ⟨F14.out.bx.lt, F14.out.outc.2.2.2⟩)
 obtain ⟨B, hBB⟩ : ∃ B, B = w14.heap.size := ⟨_, rfl⟩
 rw [← hBB] at HLB
 have hBle := Lib.hid (show B ≤ w14.heap.size from Nat.le_of_eq hBB)
 clear hBB
 go_loopw [4] (fun dv wr => RI X TA tc L n SA ns sc w w1.heap.size B R vn vm ps wr) (fun _ wr => msrM L.length w.heap.size wr)
 case atStart => exact ⟨0, sb, [], none, 0, _, _, _, _, _, _, _, HK0.out, F14.out.xnil, Own.nil _ _ _, hBle.out⟩
 case round =>
  obtain ⟨m, s', l, A, cap, ia, EAa, nea, eca, da, ca, pa, hk, fa, ho, hbw⟩ := hrel
  have HBW := Lib.hid hbw
  have FA := Lib.hid fa
  have HO := Lib.hid ho
  have HK := Lib.hid hk
  have HMS := Lib.hid fa.msr
  have HSAI := Lib.hid (fa.st.rr.ii)
  have HKK := Lib.hid (show wantP L R.1 tKet = sk from HKO.out)
  clear fa ho hk hbw F14
  cases hq : isP L s' tKet with
  | true =>
   have HQ := Lib.hid hq
   clear hq
   have hR : R = (s', l) := HK.out.stop (.inl HQ.out)
   have HRS := Lib.hid (show rstmtP L f s = putS sz ⟨1, vn, vm, l, 0, ps⟩ from by rw [HR.out, hR])
   have hkk := HKK.out
   rw [hR] at hkk
   have HK7 := Lib.hid hkk
   clear hR hkk HR HKK HKO
   have HR := HRS
   obtain ⟨⟨r0, r1, r2, r3, r4, r5, r6⟩, ⟨z0, z1, z2, z3, z4, z5, z6⟩, ⟨y0, y1, y2, y3, y4, y5, y6⟩, ⟨x0, x1, x2, x3, x4, x5, x6⟩, hlt0, hlt1⟩ := FA.out.cells
   obtain ⟨⟨o0, o1, o2, o3, o4, o5⟩, ⟨u0, u1, u2, u3, u4⟩, og0, og1⟩ := FA.out.outc
   go_wp2_with fail
   refine (sis FA.out.st tc _ HQ.out).mono ?_
   rintro e w6 ⟨rfl, b6⟩
   have F6 := Lib.hid (FA.out.call b6)
   have HO6 := Lib.hid (HO.out.next b6)
   clear r0 r1 r2 r3 r4 r5 r6 z0 z1 z2 z3 z4 z5 z6 y0 y1 y2 y3 y4 y5 y6 x0 x1 x2 x3 x4 x5 x6 hlt0 hlt1
   clear o0 o1 o2 o3 o4 o5 u0 u1 u2 u3 u4 og0 og1
   obtain ⟨⟨r0, r1, r2, r3, r4, r5, r6⟩, ⟨z0, z1, z2, z3, z4, z5, z6⟩, ⟨y0, y1, y2, y3, y4, y5, y6⟩, ⟨x0, x1, x2, x3, x4, x5, x6⟩, hlt0, hlt1⟩ := F6.out.cells
   obtain ⟨⟨o0, o1, o2, o3, o4, o5⟩, ⟨u0, u1, u2, u3, u4⟩, og0, og1⟩ := F6.out.outc
   go_wp2_with fail
   refine (swant F6.out.st tc tKet).mono ?_
   rintro e w7 ⟨v, rfl, h7, b7⟩
   rw [HK7.out] at h7
   obtain ⟨i7, EA7, ne7, ec7, d7, c7, p7, rfl, h7⟩ := h7
   have F7 := Lib.hid (F6.out.call b7)
   have HO7 := Lib.hid (HO6.out.next b7)
   clear r0 r1 r2 r3 r4 r5 r6 z0 z1 z2 z3 z4 z5 z6 y0 y1 y2 y3 y4 y5 y6 x0 x1 x2 x3 x4 x5 x6 hlt0 hlt1
   clear o0 o1 o2 o3 o4 o5 u0 u1 u2 u3 u4 og0 og1
   obtain ⟨⟨r0, r1, r2, r3, r4, r5, r6⟩, ⟨z0, z1, z2, z3, z4, z5, z6⟩, ⟨y0, y1, y2, y3, y4, y5, y6⟩, ⟨x0, x1, x2, x3, x4, x5, x6⟩, hlt0, hlt1⟩ := F7.out.cells
   obtain ⟨⟨o0, o1, o2, o3, o4, o5⟩, ⟨u0, u1, u2, u3, u4⟩, og0, og1⟩ := F7.out.outc
   go_wp2_with (obtain ⟨w8, hwS⟩ : ∃ wS, wS = (((((((w7).setCell ⟨w.heap.size, 0, none⟩ (.slice TA n tc)).setCell ⟨w.heap.size, 1, none⟩ (.int .i64 ((i7 : Nat) : Int))).setCell ⟨w.heap.size, 2, none⟩ (.slice SA ns sc)).setCell ⟨w.heap.size, 3, none⟩ (.slice EA7 ne7 ec7)).setCell ⟨w.heap.size, 4, none⟩ (.int .i64 ((d7 : Nat) : Int))).setCell ⟨w.heap.size, 5, none⟩ (.int .i64 ((c7 : Nat) : Int))).setCell ⟨w.heap.size, 6, none⟩ (.int .i64 ((p7 : Nat) : Int)) := ⟨_, rfl⟩; rw [← hwS]; have F8 := Lib.hid (F6.out.take b7 h7 hwS); have HO8 := Lib.hid (F6.out.takeO b7 HO7.out hwS); clear hwS b7 h7; clear r0 r1 r2 r3 r4 r5 r6 z0 z1 z2 z3 z4 z5 z6 y0 y1 y2 y3 y4 y5 y6 x0 x1 x2 x3 x4 x5 x6 hlt0 hlt1; clear o0 o1 o2 o3 o4 o5 u0 u1 u2 u3 u4 og0 og1; obtain ⟨⟨r0, r1, r2, r3, r4, r5, r6⟩, ⟨z0, z1, z2, z3, z4, z5, z6⟩, ⟨y0, y1, y2, y3, y4, y5, y6⟩, ⟨x0, x1, x2, x3, x4, x5, x6⟩, hlt0, hlt1⟩ := F8.out.cells; obtain ⟨⟨o0, o1, o2, o3, o4, o5⟩, ⟨u0, u1, u2, u3, u4⟩, og0, og1⟩ := F8.out.outc)
   clear r0 r1 r2 r3 r4 r5 r6 z0 z1 z2 z3 z4 z5 z6 y0 y1 y2 y3 y4 y5 y6 x0 x1 x2 x3 x4 x5 x6 hlt0 hlt1
   clear o0 o1 o2 o3 o4 o5 u0 u1 u2 u3 u4 og0 og1
   refine (swant F8.out.st tc tSemi).mono ?_
   rintro e w10 ⟨v, rfl, h10, b10⟩
   rw [HZ.out] at h10
   obtain ⟨i10, EA10, ne10, ec10, d10, c10, p10, rfl, h10⟩ := h10
   have F10 := Lib.hid (F8.out.call b10)
   have HO10 := Lib.hid (HO8.out.next b10)
   obtain ⟨⟨r0, r1, r2, r3, r4, r5, r6⟩, ⟨z0, z1, z2, z3, z4, z5, z6⟩, ⟨y0, y1, y2, y3, y4, y5, y6⟩, ⟨x0, x1, x2, x3, x4, x5, x6⟩, hlt0, hlt1⟩ := F10.out.cells
   obtain ⟨⟨o0, o1, o2, o3, o4, o5⟩, ⟨u0, u1, u2, u3, u4⟩, og0, og1⟩ := F10.out.outc
   go_wp2_with (obtain ⟨w4, hwS⟩ : ∃ wS, wS = (((((((w10).setCell ⟨w.heap.size, 0, none⟩ (.slice TA n tc)).setCell ⟨w.heap.size, 1, none⟩ (.int .i64 ((i10 : Nat) : Int))).setCell ⟨w.heap.size, 2, none⟩ (.slice SA ns sc)).setCell ⟨w.heap.size, 3, none⟩ (.slice EA10 ne10 ec10)).setCell ⟨w.heap.size, 4, none⟩ (.int .i64 ((d10 : Nat) : Int))).setCell ⟨w.heap.size, 5, none⟩ (.int .i64 ((c10 : Nat) : Int))).setCell ⟨w.heap.size, 6, none⟩ (.int .i64 ((p10 : Nat) : Int)) := ⟨_, rfl⟩; rw [← hwS]; have F4 := Lib.hid (F8.out.take b10 h10 hwS); have HO4 := Lib.hid (F8.out.takeO b10 HO10.out hwS); clear hwS b10 h10; clear r0 r1 r2 r3 r4 r5 r6 z0 z1 z2 z3 z4 z5 z6 y0 y1 y2 y3 y4 y5 y6 x0 x1 x2 x3 x4 x5 x6 hlt0 hlt1; clear o0 o1 o2 o3 o4 o5 u0 u1 u2 u3 u4 og0 og1; obtain ⟨⟨r0, r1, r2, r3, r4, r5, r6⟩, ⟨z0, z1, z2, z3, z4, z5, z6⟩, ⟨y0, y1, y2, y3, y4, y5, y6⟩, ⟨x0, x1, x2, x3, x4, x5, x6⟩, hlt0, hlt1⟩ := F4.out.cells; obtain ⟨⟨o0, o1, o2, o3, o4, o5⟩, ⟨u0, u1, u2, u3, u4⟩, og0, og1⟩ := F4.out.outc)
   have HLN := Lib.hid (show l.length = m from HK.out.1)
   obtain ⟨SSS, hSSS⟩ : ∃ SSS, SSS = (sz).ss := ⟨_, rfl⟩
   have HSSS := Lib.hid hSSS
   have HNN := Lib.hid (show SSS.length = ns ∧ ns < 64 from ⟨by rw [hSSS]; exact F4.out.st.ens.symm, HNS.out.2⟩)
   have hn2 : ns + 1 ≤ 1000000 := by have := HNS.out.2; omega
   have hn3 : ns ≤ 1000000 := by omega
   have HB4 := Lib.hid (show ∀ W, Below w4.heap.size w4 W → W.heap[w.heap.size]? = some (.cells #[.slice TA n tc, .int .i64 ((i10 : Nat) : Int), .slice SA ns sc, .slice EA10 ne10 ec10, .int .i64 ((d10 : Nat) : Int), .int .i64 ((c10 : Nat) : Int), .int .i64 ((p10 : Nat) : Int)] 165 (0, 0)) ∧ W.heap[w1.heap.size]? = some (.cells #[.int .i64 1, .int .i64 ((vn : Nat) : Int), .string vm, (.slice A m cap), .int .i64 0, .int .i64 ((ps : Nat) : Int)] 93 (0, 0)) ∧ W.heap[w.heap.size + 1]? = some (.cells #[(.slice none 0 0), (.int .i64 0), (.slice none 0 0), (.slice none 0 0), (.int .i64 0), (.int .i64 0), (.int .i64 0)] 165 (0, 0)) ∧ w.heap.size + 1 < W.heap.size ∧ w1.heap.size < W.heap.size from fun W hW => by
    have hF := F4.out.call hW
    have hx := hF.ex _ (List.mem_cons_self ..)
    exact ⟨hF.bx.k0, hx.2, hF.bx.k1, hF.bx.lt, (Array.getElem?_eq_some_iff.1 hx.2).1⟩)
   have HS4 := Lib.hid (show ∀ W, Below w4.heap.size w4 W → OwnSX X W 0 SA sc SSS from fun W hW => by
    rw [HSSS.out]
    exact ((F4.out.call hW).st.rr.ownS).re fun k hk => .inl ((fun k (hk : X k) => (Or.inl hk : XA X A k)) k hk))
   have HV4 := Lib.hid (show ∀ W, Below w4.heap.size w4 W → ArgsV X 0 W (.slice A m cap) (⟨1, vn, vm, l, 0, ps⟩ : Sm).shape from fun W hW => ⟨A, cap, by rw [HLN.out], (HO4.out.next hW).more (Nat.zero_le _), fun k hk hx => by have h1 := (HO4.out.lt k hk).1; have h2 := HXX.out k hx; have h3 := HLB.out.1; omega⟩)
   clear hSSS
   go_region_law (first | (have u1 := HS4.out ((w4.alloc (.cells #[] 93)).drew) ((one_new w4 (.cells #[] 93)).drew); have u2 : ((w4.alloc (.cells #[] 93)).drew).heap[w4.heap.size]? = some (.cells #[] 93 (0, 0)) := heap_alloc_new w4 (.cells #[] 93); have u3 := ((one_new w4 (.cells #[] 93)).drew).size; refine @appS0_step X ((w4.alloc (.cells #[] 93)).drew) _ _ _ _ _ _ rfl (.tmp 102) (.tmp 105) ?_ w4.heap.size w4.heap.size ?_ SA sc ns SSS ?_ ?_ ?_ ?_ ?_ ?_ ?_ ?_; rfl; rfl; exact HNN.out.1; rfl; exact u1; exact u2; exact Nat.le_refl _; exact u3; exact hn3; clear u1 u2 u3; intro A1 k1 w5 ho1 hb1 hA1; have b5 : Below w4.heap.size w4 w5 := bnext ((one_new w4 (.cells #[] 93)).drew) hb1; obtain ⟨p0, p1, p2, p3, p4⟩ := HB4.out w5 b5; obtain ⟨o0, o1, o2, o3, o4, o5⟩ := cells6 p1; have hlt5 : w1.heap.size < w5.heap.size := p4; clear p0 p1 p2 p3) | (have u1 := HS4.out (((w4.alloc (.cells #[] 93)).alloc (.cells #[.int .i64 1, .int .i64 ((vn : Nat) : Int), .string vm, (.slice A m cap), .int .i64 0, .int .i64 ((ps : Nat) : Int)] 93)).drew) ((al_two w4 (.cells #[] 93) (.cells #[.int .i64 1, .int .i64 ((vn : Nat) : Int), .string vm, (.slice A m cap), .int .i64 0, .int .i64 ((ps : Nat) : Int)] 93)).drew); have u2 : (((w4.alloc (.cells #[] 93)).alloc (.cells #[.int .i64 1, .int .i64 ((vn : Nat) : Int), .string vm, (.slice A m cap), .int .i64 0, .int .i64 ((ps : Nat) : Int)] 93)).drew).heap[w4.heap.size]? = some (.cells #[] 93 (0, 0)) := al_old w4 #[] 93 (.cells #[.int .i64 1, .int .i64 ((vn : Nat) : Int), .string vm, (.slice A m cap), .int .i64 0, .int .i64 ((ps : Nat) : Int)] 93); have u3 := ((al_two w4 (.cells #[] 93) (.cells #[.int .i64 1, .int .i64 ((vn : Nat) : Int), .string vm, (.slice A m cap), .int .i64 0, .int .i64 ((ps : Nat) : Int)] 93)).drew).size; refine @appS0_step X (((w4.alloc (.cells #[] 93)).alloc (.cells #[.int .i64 1, .int .i64 ((vn : Nat) : Int), .string vm, (.slice A m cap), .int .i64 0, .int .i64 ((ps : Nat) : Int)] 93)).drew) _ _ _ _ _ _ rfl (.tmp 102) (.tmp 105) ?_ w4.heap.size w4.heap.size ?_ SA sc ns SSS ?_ ?_ ?_ ?_ ?_ ?_ ?_ ?_; rfl; rfl; exact HNN.out.1; rfl; exact u1; exact u2; exact Nat.le_refl _; exact u3; exact hn3; clear u1 u2 u3; intro A1 k1 w5 ho1 hb1 hA1; have b5 : Below w4.heap.size w4 w5 := bnext ((al_two w4 (.cells #[] 93) (.cells #[.int .i64 1, .int .i64 ((vn : Nat) : Int), .string vm, (.slice A m cap), .int .i64 0, .int .i64 ((ps : Nat) : Int)] 93)).drew) hb1; obtain ⟨p0, p1, p2, p3, p4⟩ := HB4.out w5 b5; obtain ⟨o0, o1, o2, o3, o4, o5⟩ := cells6 p1; have hlt5 : w1.heap.size < w5.heap.size := p4; have hE5 : w5.heap[w4.heap.size + 1]? = some (.cells #[.int .i64 1, .int .i64 ((vn : Nat) : Int), .string vm, (.slice A m cap), .int .i64 0, .int .i64 ((ps : Nat) : Int)] 93 (0, 0)) := bl_on (w := ((w4.alloc (.cells #[] 93)).alloc (.cells #[.int .i64 1, .int .i64 ((vn : Nat) : Int), .string vm, (.slice A m cap), .int .i64 0, .int .i64 ((ps : Nat) : Int)] 93)).drew) (show (((w4.alloc (.cells #[] 93)).alloc (.cells #[.int .i64 1, .int .i64 ((vn : Nat) : Int), .string vm, (.slice A m cap), .int .i64 0, .int .i64 ((ps : Nat) : Int)] 93)).drew).heap[w4.heap.size + 1]? = some (.cells #[.int .i64 1, .int .i64 ((vn : Nat) : Int), .string vm, (.slice A m cap), .int .i64 0, .int .i64 ((ps : Nat) : Int)] 93 (0, 0)) from al_new2 w4 #[.int .i64 1, .int .i64 ((vn : Nat) : Int), .string vm, (.slice A m cap), .int .i64 0, .int .i64 ((ps : Nat) : Int)] 93 (.cells #[] 93)) hb1; clear p0 p1 p2 p3) | (have u1 := HS4.out (((w4.alloc (.cells #[.int .i64 1, .int .i64 ((vn : Nat) : Int), .string vm, (.slice A m cap), .int .i64 0, .int .i64 ((ps : Nat) : Int)] 93)).alloc (.cells #[] 93)).drew) ((al_two w4 (.cells #[.int .i64 1, .int .i64 ((vn : Nat) : Int), .string vm, (.slice A m cap), .int .i64 0, .int .i64 ((ps : Nat) : Int)] 93) (.cells #[] 93)).drew); have u2 : (((w4.alloc (.cells #[.int .i64 1, .int .i64 ((vn : Nat) : Int), .string vm, (.slice A m cap), .int .i64 0, .int .i64 ((ps : Nat) : Int)] 93)).alloc (.cells #[] 93)).drew).heap[(w4.heap.size + 1)]? = some (.cells #[] 93 (0, 0)) := al_new2 w4 #[] 93 (.cells #[.int .i64 1, .int .i64 ((vn : Nat) : Int), .string vm, (.slice A m cap), .int .i64 0, .int .i64 ((ps : Nat) : Int)] 93); have u3 := ((al_two w4 (.cells #[.int .i64 1, .int .i64 ((vn : Nat) : Int), .string vm, (.slice A m cap), .int .i64 0, .int .i64 ((ps : Nat) : Int)] 93) (.cells #[] 93)).drew).size; refine @appS0_step X (((w4.alloc (.cells #[.int .i64 1, .int .i64 ((vn : Nat) : Int), .string vm, (.slice A m cap), .int .i64 0, .int .i64 ((ps : Nat) : Int)] 93)).alloc (.cells #[] 93)).drew) _ _ _ _ _ _ rfl (.tmp 102) (.tmp 105) ?_ w4.heap.size (w4.heap.size + 1) ?_ SA sc ns SSS ?_ ?_ ?_ ?_ ?_ ?_ ?_ ?_; rfl; rfl; exact HNN.out.1; rfl; exact u1; exact u2; exact Nat.le_succ _; exact u3; exact hn3; clear u1 u2 u3; intro A1 k1 w5 ho1 hb1 hA1; have b5 : Below w4.heap.size w4 w5 := bnext ((al_two w4 (.cells #[.int .i64 1, .int .i64 ((vn : Nat) : Int), .string vm, (.slice A m cap), .int .i64 0, .int .i64 ((ps : Nat) : Int)] 93) (.cells #[] 93)).drew) hb1; obtain ⟨p0, p1, p2, p3, p4⟩ := HB4.out w5 b5; obtain ⟨o0, o1, o2, o3, o4, o5⟩ := cells6 p1; have hlt5 : w1.heap.size < w5.heap.size := p4; have hE5 : w5.heap[w4.heap.size]? = some (.cells #[.int .i64 1, .int .i64 ((vn : Nat) : Int), .string vm, (.slice A m cap), .int .i64 0, .int .i64 ((ps : Nat) : Int)] 93 (0, 0)) := bl_on (w := ((w4.alloc (.cells #[.int .i64 1, .int .i64 ((vn : Nat) : Int), .string vm, (.slice A m cap), .int .i64 0, .int .i64 ((ps : Nat) : Int)] 93)).alloc (.cells #[] 93)).drew) (show (((w4.alloc (.cells #[.int .i64 1, .int .i64 ((vn : Nat) : Int), .string vm, (.slice A m cap), .int .i64 0, .int .i64 ((ps : Nat) : Int)] 93)).alloc (.cells #[] 93)).drew).heap[w4.heap.size]? = some (.cells #[.int .i64 1, .int .i64 ((vn : Nat) : Int), .string vm, (.slice A m cap), .int .i64 0, .int .i64 ((ps : Nat) : Int)] 93 (0, 0)) from al_old w4 #[.int .i64 1, .int .i64 ((vn : Nat) : Int), .string vm, (.slice A m cap), .int .i64 0, .int .i64 ((ps : Nat) : Int)] 93 (.cells #[] 93)) hb1; clear p0 p1 p2 p3) | (have u1 := ho1.next (one_new w5 (.cells #[.int .i64 1, .int .i64 ((vn : Nat) : Int), .string vm, (.slice A m cap), .int .i64 0, .int .i64 ((ps : Nat) : Int)] 93)); have u2 : (w5.alloc (.cells #[.int .i64 1, .int .i64 ((vn : Nat) : Int), .string vm, (.slice A m cap), .int .i64 0, .int .i64 ((ps : Nat) : Int)] 93)).heap[w5.heap.size]? = some (.cells #[.int .i64 1, .int .i64 ((vn : Nat) : Int), .string vm, (.slice A m cap), .int .i64 0, .int .i64 ((ps : Nat) : Int)] 93 (0, 0)) := heap_alloc_new w5 (.cells #[.int .i64 1, .int .i64 ((vn : Nat) : Int), .string vm, (.slice A m cap), .int .i64 0, .int .i64 ((ps : Nat) : Int)] 93); have u3 := HV4.out (w5.alloc (.cells #[.int .i64 1, .int .i64 ((vn : Nat) : Int), .string vm, (.slice A m cap), .int .i64 0, .int .i64 ((ps : Nat) : Int)] 93)) (bnext b5 (one_new w5 (.cells #[.int .i64 1, .int .i64 ((vn : Nat) : Int), .string vm, (.slice A m cap), .int .i64 0, .int .i64 ((ps : Nat) : Int)] 93))); refine @appS_step X (w5.alloc (.cells #[.int .i64 1, .int .i64 ((vn : Nat) : Int), .string vm, (.slice A m cap), .int .i64 0, .int .i64 ((ps : Nat) : Int)] 93)) _ _ _ _ _ _ rfl (.tmp 106) (.tmp 108) ?_ 0 A1 k1 SSS ns ?_ ?_ ?_ w5.heap.size ?_ (⟨1, vn, vm, l, 0, ps⟩, (.slice A m cap)) ?_ ?_ ?_ ?_ ?_; rfl; exact HNN.out.1; rfl; exact u1; rfl; exact u2; exact u3; exact hn2; exact Nat.zero_le _; clear u1 u2 u3; intro A2 k2 w6 ho2 hg2; have b6 : Below w4.heap.size w4 w6 := (bnext b5 (one_new w5 (.cells #[.int .i64 1, .int .i64 ((vn : Nat) : Int), .string vm, (.slice A m cap), .int .i64 0, .int .i64 ((ps : Nat) : Int)] 93))).grown hg2 ((bnext b5 (one_new w5 (.cells #[.int .i64 1, .int .i64 ((vn : Nat) : Int), .string vm, (.slice A m cap), .int .i64 0, .int .i64 ((ps : Nat) : Int)] 93))).size) (fun k hk => hA1 k hk); obtain ⟨p0, p1, p2, p3, p4⟩ := HB4.out w6 b6; obtain ⟨r0, r1, r2, r3, r4, r5, r6⟩ := cells7 p0; obtain ⟨y0, y1, y2, y3, y4, y5, y6⟩ := frees7 p0; obtain ⟨z0, z1, z2, z3, z4, z5, z6⟩ := cells7 p2; obtain ⟨x0, x1, x2, x3, x4, x5, x6⟩ := frees7 p2; have hl6 : w.heap.size + 1 < w6.heap.size := p3; have hl7 : w.heap.size < w6.heap.size := Nat.lt_trans (Nat.lt_succ_self _) p3; have HB6 := Lib.hid b6; have HO6 := Lib.hid ho2; clear p0 p1 p2 p3 p4 ho2 hg2 b6) | (have u1 := ho1; have u2 : (w5).heap[(w4.heap.size + 1)]? = some (.cells #[.int .i64 1, .int .i64 ((vn : Nat) : Int), .string vm, (.slice A m cap), .int .i64 0, .int .i64 ((ps : Nat) : Int)] 93 (0, 0)) := hE5; have u3 := HV4.out w5 b5; refine @appS_step X (w5) _ _ _ _ _ _ rfl (.tmp 106) (.tmp 108) ?_ 0 A1 k1 SSS ns ?_ ?_ ?_ (w4.heap.size + 1) ?_ (⟨1, vn, vm, l, 0, ps⟩, (.slice A m cap)) ?_ ?_ ?_ ?_ ?_; rfl; exact HNN.out.1; rfl; exact u1; rfl; exact u2; exact u3; exact hn2; exact Nat.zero_le _; clear u1 u2 u3; intro A2 k2 w6 ho2 hg2; have b6 : Below w4.heap.size w4 w6 := (b5).grown hg2 (b5.size) (fun k hk => hA1 k hk); obtain ⟨p0, p1, p2, p3, p4⟩ := HB4.out w6 b6; obtain ⟨r0, r1, r2, r3, r4, r5, r6⟩ := cells7 p0; obtain ⟨y0, y1, y2, y3, y4, y5, y6⟩ := frees7 p0; obtain ⟨z0, z1, z2, z3, z4, z5, z6⟩ := cells7 p2; obtain ⟨x0, x1, x2, x3, x4, x5, x6⟩ := frees7 p2; have hl6 : w.heap.size + 1 < w6.heap.size := p3; have hl7 : w.heap.size < w6.heap.size := Nat.lt_trans (Nat.lt_succ_self _) p3; have HB6 := Lib.hid b6; have HO6 := Lib.hid ho2; clear p0 p1 p2 p3 p4 ho2 hg2 b6) | (have u1 := ho1; have u2 : (w5).heap[w4.heap.size]? = some (.cells #[.int .i64 1, .int .i64 ((vn : Nat) : Int), .string vm, (.slice A m cap), .int .i64 0, .int .i64 ((ps : Nat) : Int)] 93 (0, 0)) := hE5; have u3 := HV4.out w5 b5; refine @appS_step X (w5) _ _ _ _ _ _ rfl (.tmp 106) (.tmp 108) ?_ 0 A1 k1 SSS ns ?_ ?_ ?_ w4.heap.size ?_ (⟨1, vn, vm, l, 0, ps⟩, (.slice A m cap)) ?_ ?_ ?_ ?_ ?_; rfl; exact HNN.out.1; rfl; exact u1; rfl; exact u2; exact u3; exact hn2; exact Nat.zero_le _; clear u1 u2 u3; intro A2 k2 w6 ho2 hg2; have b6 : Below w4.heap.size w4 w6 := (b5).grown hg2 (b5.size) (fun k hk => hA1 k hk); obtain ⟨p0, p1, p2, p3, p4⟩ := HB4.out w6 b6; obtain ⟨r0, r1, r2, r3, r4, r5, r6⟩ := cells7 p0; obtain ⟨y0, y1, y2, y3, y4, y5, y6⟩ := frees7 p0; obtain ⟨z0, z1, z2, z3, z4, z5, z6⟩ := cells7 p2; obtain ⟨x0, x1, x2, x3, x4, x5, x6⟩ := frees7 p2; have hl6 : w.heap.size + 1 < w6.heap.size := p3; have hl7 : w.heap.size < w6.heap.size := Nat.lt_trans (Nat.lt_succ_self _) p3; have HB6 := Lib.hid b6; have HO6 := Lib.hid ho2; clear p0 p1 p2 p3 p4 ho2 hg2 b6))
   all_goals
    go_wp2
    obtain ⟨wS, hwS⟩ : ∃ wS, wS = ((((((((w6.setCell ⟨w.heap.size, 2, none⟩ (.slice A2 (ns + 1) k2))).setCell ⟨w.heap.size + 1, 0, none⟩ (.slice TA n tc)).setCell ⟨w.heap.size + 1, 1, none⟩ (.int .i64 ((i10 : Nat) : Int))).setCell ⟨w.heap.size + 1, 2, none⟩ (.slice A2 (ns + 1) k2)).setCell ⟨w.heap.size + 1, 3, none⟩ (.slice EA10 ne10 ec10)).setCell ⟨w.heap.size + 1, 4, none⟩ (.int .i64 ((d10 : Nat) : Int))).setCell ⟨w.heap.size + 1, 5, none⟩ (.int .i64 ((c10 : Nat) : Int))).setCell ⟨w.heap.size + 1, 6, none⟩ (.int .i64 ((p10 : Nat) : Int)) := ⟨_, rfl⟩
    rw [← hwS]
    obtain ⟨f1, f2, f3⟩ := FR.putS (X := X) (n2 := ns + 1) (x := ⟨1, vn, vm, l, 0, ps⟩) F4.out (fun k (hk : X k) => (Or.inl hk : XA X A k)) HB6.out (by rw [← HSSS.out]; exact HO6.out) (by rw [← HSSS.out]; have := HNN.out; omega) rfl hwS
    obtain ⟨g0, g1, g2, g3, g4, g5, g6⟩ := cells7 f1
    clear hwS f1
    exact bodyPost_ret (v := .agg #[.slice TA n tc, .int .i64 ((i10 : Nat) : Int), .slice A2 (ns + 1) k2, .slice EA10 ne10 ec10, .int .i64 ((d10 : Nat) : Int), .int .i64 ((c10 : Nat) : Int), .int .i64 ((p10 : Nat) : Int)]) (by simp [results, Tryz.results88, go_sem, g0, g1, g2, g3, g4, g5, g6]) rfl ⟨_, A2, ns + 1, k2, rfl, by rw [HR.out]; exact f2.ro, f3⟩
  | false =>
   have HQ := Lib.hid hq
   clear hq
   by_cases he : s'.err = none
   ·have hc0 : ca = 0 := by rw [FA.out.st.ecc, eC_none he]
    have q0 : ((ca : Int) == 0) = true := by rw [beq_iff_eq]; omega
    obtain ⟨sb', vb, hnb⟩ : ∃ sb' vb, numberP L (sqP L s' l) = (sb', vb) := ⟨_, _, rfl⟩
    have hx := HK.out.step HQ.out he HSAI.out
    have hmx := msr_step (L := L) s' l he HSAI.out
    rw [hnb] at hx hmx
    have HX := Lib.hid hx
    have HMX := Lib.hid hmx
    have HNB := Lib.hid hnb
    have HLL := Lib.hid (show l.length = m from HK.out.1)
    have HM0 := Lib.hid (show m ≤ 1001 from by have h1 := HK.out.2.1; have h2 := HSAI.out; have h3 := FA.out.st.rr.len; omega)
    clear hx hmx hnb hc0 he
    obtain ⟨⟨r0, r1, r2, r3, r4, r5, r6⟩, ⟨z0, z1, z2, z3, z4, z5, z6⟩, ⟨y0, y1, y2, y3, y4, y5, y6⟩, ⟨x0, x1, x2, x3, x4, x5, x6⟩, hlt0, hlt1⟩ := FA.out.cells
    obtain ⟨⟨o0, o1, o2, o3, o4, o5⟩, ⟨u0, u1, u2, u3, u4⟩, og0, og1⟩ := FA.out.outc
    go_wp2_with fail
    refine (sis FA.out.st tc _ HQ.out).mono ?_
    rintro e w6 ⟨rfl, b6⟩
    have F6 := Lib.hid (FA.out.call b6)
    have HO6 := Lib.hid (HO.out.next b6)
    have HSZ6 := Lib.hid (Nat.le_trans HBW.out b6.size)
    clear b6
    clear r0 r1 r2 r3 r4 r5 r6 z0 z1 z2 z3 z4 z5 z6 y0 y1 y2 y3 y4 y5 y6 x0 x1 x2 x3 x4 x5 x6 hlt0 hlt1
    clear o0 o1 o2 o3 o4 o5 u0 u1 u2 u3 u4 og0 og1
    obtain ⟨⟨r0, r1, r2, r3, r4, r5, r6⟩, ⟨z0, z1, z2, z3, z4, z5, z6⟩, ⟨y0, y1, y2, y3, y4, y5, y6⟩, ⟨x0, x1, x2, x3, x4, x5, x6⟩, hlt0, hlt1⟩ := F6.out.cells
    obtain ⟨⟨o0, o1, o2, o3, o4, o5⟩, ⟨u0, u1, u2, u3, u4⟩, og0, og1⟩ := F6.out.outc
    by_cases hm0 : m = 0
    ·have hz : sqP L s' l = s' := by unfold sqP; exact if_pos (by rw [HLL.out]; exact hm0)
     rw [hz] at HNB
     have qj : decide ((0 : Int) < (m : Int)) = false := by simp; omega
     have qj2 : decide (0 < m) = false := by simp; omega
     have HSZ0 := HSZ6
     clear hz hm0
     go_wp2_with fail
     refine (snumber F6.out.st tc).mono ?_
     rintro e w8 ⟨v, rfl, h8, b8⟩
     rw [HNB.out] at h8
     obtain ⟨i8, EA8, ne8, ec8, d8, c8, p8, rfl, h8⟩ := h8
     try simp only [HNB.out]
     have F8 := Lib.hid (F6.out.call b8)
     have HO8 := Lib.hid (HO6.out.next b8)
     clear r0 r1 r2 r3 r4 r5 r6 z0 z1 z2 z3 z4 z5 z6 y0 y1 y2 y3 y4 y5 y6 x0 x1 x2 x3 x4 x5 x6 hlt0 hlt1
     clear o0 o1 o2 o3 o4 o5 u0 u1 u2 u3 u4 og0 og1
     obtain ⟨⟨r0, r1, r2, r3, r4, r5, r6⟩, ⟨z0, z1, z2, z3, z4, z5, z6⟩, ⟨y0, y1, y2, y3, y4, y5, y6⟩, ⟨x0, x1, x2, x3, x4, x5, x6⟩, hlt0, hlt1⟩ := F8.out.cells
     obtain ⟨⟨o0, o1, o2, o3, o4, o5⟩, ⟨u0, u1, u2, u3, u4⟩, og0, og1⟩ := F8.out.outc
     go_wp2_with (at_builtin; obtain ⟨w9, hwS⟩ : ∃ wS, wS = (((((((w8).setCell ⟨w.heap.size, 0, none⟩ (.slice TA n tc)).setCell ⟨w.heap.size, 1, none⟩ (.int .i64 ((i8 : Nat) : Int))).setCell ⟨w.heap.size, 2, none⟩ (.slice SA ns sc)).setCell ⟨w.heap.size, 3, none⟩ (.slice EA8 ne8 ec8)).setCell ⟨w.heap.size, 4, none⟩ (.int .i64 ((d8 : Nat) : Int))).setCell ⟨w.heap.size, 5, none⟩ (.int .i64 ((c8 : Nat) : Int))).setCell ⟨w.heap.size, 6, none⟩ (.int .i64 ((p8 : Nat) : Int)) := ⟨_, rfl⟩; rw [← hwS]; have F9 := Lib.hid (F6.out.take b8 h8 hwS); have HO9 := Lib.hid (F6.out.takeO b8 HO8.out hwS); have hsz : w9.heap.size = w8.heap.size := (by rw [hwS]; simp [World.setCell]); have hsz2 : B ≤ w9.heap.size := (by rw [hsz]; exact Nat.le_trans HSZ0.out b8.size); clear hwS b8 h8; clear r0 r1 r2 r3 r4 r5 r6 z0 z1 z2 z3 z4 z5 z6 y0 y1 y2 y3 y4 y5 y6 x0 x1 x2 x3 x4 x5 x6 hlt0 hlt1; clear o0 o1 o2 o3 o4 o5 u0 u1 u2 u3 u4 og0 og1; have F10 := Lib.hid (F9.out.al (.cells #[I64 vb] 3)); have HO10 := Lib.hid (HO9.out.alloc (.cells #[I64 vb] 3)); refine appI rfl (.tmp 57) (.tmp 59) rfl B A cap l m HLL.out rfl HO10.out w9.heap.size (by rw [hsz]; rfl) vb (heap_alloc_new _ _) (by have := HM0.out; omega) (by simp; omega) ?_; intro A' cap' w11 ho11 hg11 hA11; have F11 := Lib.hid (FR.grown F10.out HO10.out HLB.out.1 (fun q hq => by rcases List.mem_cons.1 hq with rfl | hq; exact HLB.out.2; cases hq) hg11 ho11 hA11); have HO11 := Lib.hid ho11; have HB11 := Lib.hid (show B ≤ w11.heap.size from Nat.le_trans (by simp; omega) hg11.size); clear ho11 hg11 hA11; obtain ⟨⟨r0, r1, r2, r3, r4, r5, r6⟩, ⟨z0, z1, z2, z3, z4, z5, z6⟩, ⟨y0, y1, y2, y3, y4, y5, y6⟩, ⟨x0, x1, x2, x3, x4, x5, x6⟩, hlt0, hlt1⟩ := F11.out.cells; obtain ⟨⟨o0, o1, o2, o3, o4, o5⟩, ⟨u0, u1, u2, u3, u4⟩, og0, og1⟩ := F11.out.outc)
     obtain ⟨w12, hw12⟩ : ∃ w12, w12 = w11.setCell ⟨w1.heap.size, 3, none⟩ (.slice A' (m + 1) cap') := ⟨_, rfl⟩
     try rw [← hw12]
     have F12 := Lib.hid (show FR (XA X A') TA L n SA ns sc tc w w12 sb' i8 EA8 ne8 ec8 d8 c8 p8 #[(.slice none 0 0), (.int .i64 0), (.slice none 0 0), (.slice none 0 0), (.int .i64 0), (.int .i64 0), (.int .i64 0)] ((w1.heap.size, .cells #[.int .i64 1, .int .i64 ((vn : Nat) : Int), .string vm, (.slice A' (m + 1) cap'), .int .i64 0, .int .i64 ((ps : Nat) : Int)] 93) :: []) from by rw [hw12]; exact F11.out.setOut HSA.out 3 _ rfl)
     have HO12 := Lib.hid (show Own w12 B 3 A' cap' ((l ++ [vb]).map I64) from by rw [hw12]; exact F11.out.setOutO HO11.out _ _)
     have HB12 := Lib.hid (show B ≤ w12.heap.size from by rw [hw12]; simpa [World.setCell] using HB11.out)
     exact ⟨⟨m + 1, sb', l ++ [vb], A', cap', _, _, _, _, _, _, _, HX.out, F12.out, HO12.out, HB12.out⟩, by rw [F12.out.msr, HMS.out]; exact HMX.out⟩
    ·have hz : sqP L s' l = wantP L s' tComma := by unfold sqP; exact if_neg (by rw [HLL.out]; exact hm0)
     rw [hz] at HNB
     have qj : decide ((0 : Int) < (m : Int)) = true := by simp; omega
     have qj2 : decide (0 < m) = true := by simp; omega
     clear hz hm0
     go_wp2_with fail
     refine (swant F6.out.st tc tComma).mono ?_
     rintro e w7 ⟨v, rfl, ⟨i7, EA7, ne7, ec7, d7, c7, p7, rfl, h7⟩, b7⟩
     have F7 := Lib.hid (F6.out.call b7)
     have HO7 := Lib.hid (HO6.out.next b7)
     clear r0 r1 r2 r3 r4 r5 r6 z0 z1 z2 z3 z4 z5 z6 y0 y1 y2 y3 y4 y5 y6 x0 x1 x2 x3 x4 x5 x6 hlt0 hlt1
     clear o0 o1 o2 o3 o4 o5 u0 u1 u2 u3 u4 og0 og1
     obtain ⟨⟨r0, r1, r2, r3, r4, r5, r6⟩, ⟨z0, z1, z2, z3, z4, z5, z6⟩, ⟨y0, y1, y2, y3, y4, y5, y6⟩, ⟨x0, x1, x2, x3, x4, x5, x6⟩, hlt0, hlt1⟩ := F7.out.cells
     obtain ⟨⟨o0, o1, o2, o3, o4, o5⟩, ⟨u0, u1, u2, u3, u4⟩, og0, og1⟩ := F7.out.outc
     go_wp2_with (obtain ⟨wB, hwS⟩ : ∃ wS, wS = (((((((w7).setCell ⟨w.heap.size, 0, none⟩ (.slice TA n tc)).setCell ⟨w.heap.size, 1, none⟩ (.int .i64 ((i7 : Nat) : Int))).setCell ⟨w.heap.size, 2, none⟩ (.slice SA ns sc)).setCell ⟨w.heap.size, 3, none⟩ (.slice EA7 ne7 ec7)).setCell ⟨w.heap.size, 4, none⟩ (.int .i64 ((d7 : Nat) : Int))).setCell ⟨w.heap.size, 5, none⟩ (.int .i64 ((c7 : Nat) : Int))).setCell ⟨w.heap.size, 6, none⟩ (.int .i64 ((p7 : Nat) : Int)) := ⟨_, rfl⟩; rw [← hwS]; have hsz : wB.heap.size = w7.heap.size := (by rw [hwS]; simp [World.setCell]); have HSZ0 := Lib.hid (show B ≤ wB.heap.size from by rw [hsz]; exact Nat.le_trans HSZ6.out b7.size); clear hsz; have FB := Lib.hid (F6.out.take b7 h7 hwS); have HOB := Lib.hid (F6.out.takeO b7 HO7.out hwS); clear hwS b7 h7; clear r0 r1 r2 r3 r4 r5 r6 z0 z1 z2 z3 z4 z5 z6 y0 y1 y2 y3 y4 y5 y6 x0 x1 x2 x3 x4 x5 x6 hlt0 hlt1; clear o0 o1 o2 o3 o4 o5 u0 u1 u2 u3 u4 og0 og1; obtain ⟨⟨r0, r1, r2, r3, r4, r5, r6⟩, ⟨z0, z1, z2, z3, z4, z5, z6⟩, ⟨y0, y1, y2, y3, y4, y5, y6⟩, ⟨x0, x1, x2, x3, x4, x5, x6⟩, hlt0, hlt1⟩ := FB.out.cells; obtain ⟨⟨o0, o1, o2, o3, o4, o5⟩, ⟨u0, u1, u2, u3, u4⟩, og0, og1⟩ := FB.out.outc)
     refine (snumber FB.out.st tc).mono ?_
     rintro e w8 ⟨v, rfl, h8, b8⟩
     rw [HNB.out] at h8
     obtain ⟨i8, EA8, ne8, ec8, d8, c8, p8, rfl, h8⟩ := h8
     try simp only [HNB.out]
     have F8 := Lib.hid (FB.out.call b8)
     have HO8 := Lib.hid (HOB.out.next b8)
     clear r0 r1 r2 r3 r4 r5 r6 z0 z1 z2 z3 z4 z5 z6 y0 y1 y2 y3 y4 y5 y6 x0 x1 x2 x3 x4 x5 x6 hlt0 hlt1
     clear o0 o1 o2 o3 o4 o5 u0 u1 u2 u3 u4 og0 og1
     obtain ⟨⟨r0, r1, r2, r3, r4, r5, r6⟩, ⟨z0, z1, z2, z3, z4, z5, z6⟩, ⟨y0, y1, y2, y3, y4, y5, y6⟩, ⟨x0, x1, x2, x3, x4, x5, x6⟩, hlt0, hlt1⟩ := F8.out.cells
     obtain ⟨⟨o0, o1, o2, o3, o4, o5⟩, ⟨u0, u1, u2, u3, u4⟩, og0, og1⟩ := F8.out.outc
     go_wp2_with (at_builtin; obtain ⟨w9, hwS⟩ : ∃ wS, wS = (((((((w8).setCell ⟨w.heap.size, 0, none⟩ (.slice TA n tc)).setCell ⟨w.heap.size, 1, none⟩ (.int .i64 ((i8 : Nat) : Int))).setCell ⟨w.heap.size, 2, none⟩ (.slice SA ns sc)).setCell ⟨w.heap.size, 3, none⟩ (.slice EA8 ne8 ec8)).setCell ⟨w.heap.size, 4, none⟩ (.int .i64 ((d8 : Nat) : Int))).setCell ⟨w.heap.size, 5, none⟩ (.int .i64 ((c8 : Nat) : Int))).setCell ⟨w.heap.size, 6, none⟩ (.int .i64 ((p8 : Nat) : Int)) := ⟨_, rfl⟩; rw [← hwS]; have F9 := Lib.hid (FB.out.take b8 h8 hwS); have HO9 := Lib.hid (FB.out.takeO b8 HO8.out hwS); have hsz : w9.heap.size = w8.heap.size := (by rw [hwS]; simp [World.setCell]); have hsz2 : B ≤ w9.heap.size := (by rw [hsz]; exact Nat.le_trans HSZ0.out b8.size); clear hwS b8 h8; clear r0 r1 r2 r3 r4 r5 r6 z0 z1 z2 z3 z4 z5 z6 y0 y1 y2 y3 y4 y5 y6 x0 x1 x2 x3 x4 x5 x6 hlt0 hlt1; clear o0 o1 o2 o3 o4 o5 u0 u1 u2 u3 u4 og0 og1; have F10 := Lib.hid (F9.out.al (.cells #[I64 vb] 3)); have HO10 := Lib.hid (HO9.out.alloc (.cells #[I64 vb] 3)); refine appI rfl (.tmp 57) (.tmp 59) rfl B A cap l m HLL.out rfl HO10.out w9.heap.size (by rw [hsz]; rfl) vb (heap_alloc_new _ _) (by have := HM0.out; omega) (by simp; omega) ?_; intro A' cap' w11 ho11 hg11 hA11; have F11 := Lib.hid (FR.grown F10.out HO10.out HLB.out.1 (fun q hq => by rcases List.mem_cons.1 hq with rfl | hq; exact HLB.out.2; cases hq) hg11 ho11 hA11); have HO11 := Lib.hid ho11; have HB11 := Lib.hid (show B ≤ w11.heap.size from Nat.le_trans (by simp; omega) hg11.size); clear ho11 hg11 hA11; obtain ⟨⟨r0, r1, r2, r3, r4, r5, r6⟩, ⟨z0, z1, z2, z3, z4, z5, z6⟩, ⟨y0, y1, y2, y3, y4, y5, y6⟩, ⟨x0, x1, x2, x3, x4, x5, x6⟩, hlt0, hlt1⟩ := F11.out.cells; obtain ⟨⟨o0, o1, o2, o3, o4, o5⟩, ⟨u0, u1, u2, u3, u4⟩, og0, og1⟩ := F11.out.outc)
     obtain ⟨w12, hw12⟩ : ∃ w12, w12 = w11.setCell ⟨w1.heap.size, 3, none⟩ (.slice A' (m + 1) cap') := ⟨_, rfl⟩
     try rw [← hw12]
     have F12 := Lib.hid (show FR (XA X A') TA L n SA ns sc tc w w12 sb' i8 EA8 ne8 ec8 d8 c8 p8 #[(.slice none 0 0), (.int .i64 0), (.slice none 0 0), (.slice none 0 0), (.int .i64 0), (.int .i64 0), (.int .i64 0)] ((w1.heap.size, .cells #[.int .i64 1, .int .i64 ((vn : Nat) : Int), .string vm, (.slice A' (m + 1) cap'), .int .i64 0, .int .i64 ((ps : Nat) : Int)] 93) :: []) from by rw [hw12]; exact F11.out.setOut HSA.out 3 _ rfl)
     have HO12 := Lib.hid (show Own w12 B 3 A' cap' ((l ++ [vb]).map I64) from by rw [hw12]; exact F11.out.setOutO HO11.out _ _)
     have HB12 := Lib.hid (show B ≤ w12.heap.size from by rw [hw12]; simpa [World.setCell] using HB11.out)
     exact ⟨⟨m + 1, sb', l ++ [vb], A', cap', _, _, _, _, _, _, _, HX.out, F12.out, HO12.out, HB12.out⟩, by rw [F12.out.msr, HMS.out]; exact HMX.out⟩
   ·have hc0 : ca ≠ 0 := by rw [FA.out.st.ecc]; exact FA.out.st.rr.eC_some he
    have q0 : ((ca : Int) == 0) = false := by rw [beq_eq_false_iff_ne]; omega
    have HE := Lib.hid he
    clear hc0 he
    have hR : R = (s', l) := HK.out.stop (.inr HE.out)
    have HRS := Lib.hid (show rstmtP L f s = putS sz ⟨1, vn, vm, l, 0, ps⟩ from by rw [HR.out, hR])
    have hkk := HKK.out
    rw [hR] at hkk
    have HK7 := Lib.hid hkk
    clear hR hkk HR HKK HKO
    have HR := HRS
    obtain ⟨⟨r0, r1, r2, r3, r4, r5, r6⟩, ⟨z0, z1, z2, z3, z4, z5, z6⟩, ⟨y0, y1, y2, y3, y4, y5, y6⟩, ⟨x0, x1, x2, x3, x4, x5, x6⟩, hlt0, hlt1⟩ := FA.out.cells
    obtain ⟨⟨o0, o1, o2, o3, o4, o5⟩, ⟨u0, u1, u2, u3, u4⟩, og0, og1⟩ := FA.out.outc
    go_wp2_with fail
    refine (sis FA.out.st tc _ HQ.out).mono ?_
    rintro e w6 ⟨rfl, b6⟩
    have F6 := Lib.hid (FA.out.call b6)
    have HO6 := Lib.hid (HO.out.next b6)
    clear r0 r1 r2 r3 r4 r5 r6 z0 z1 z2 z3 z4 z5 z6 y0 y1 y2 y3 y4 y5 y6 x0 x1 x2 x3 x4 x5 x6 hlt0 hlt1
    clear o0 o1 o2 o3 o4 o5 u0 u1 u2 u3 u4 og0 og1
    obtain ⟨⟨r0, r1, r2, r3, r4, r5, r6⟩, ⟨z0, z1, z2, z3, z4, z5, z6⟩, ⟨y0, y1, y2, y3, y4, y5, y6⟩, ⟨x0, x1, x2, x3, x4, x5, x6⟩, hlt0, hlt1⟩ := F6.out.cells
    obtain ⟨⟨o0, o1, o2, o3, o4, o5⟩, ⟨u0, u1, u2, u3, u4⟩, og0, og1⟩ := F6.out.outc
    go_wp2_with fail
    refine (swant F6.out.st tc tKet).mono ?_
    rintro e w7 ⟨v, rfl, h7, b7⟩
    rw [HK7.out] at h7
    obtain ⟨i7, EA7, ne7, ec7, d7, c7, p7, rfl, h7⟩ := h7
    have F7 := Lib.hid (F6.out.call b7)
    have HO7 := Lib.hid (HO6.out.next b7)
    clear r0 r1 r2 r3 r4 r5 r6 z0 z1 z2 z3 z4 z5 z6 y0 y1 y2 y3 y4 y5 y6 x0 x1 x2 x3 x4 x5 x6 hlt0 hlt1
    clear o0 o1 o2 o3 o4 o5 u0 u1 u2 u3 u4 og0 og1
    obtain ⟨⟨r0, r1, r2, r3, r4, r5, r6⟩, ⟨z0, z1, z2, z3, z4, z5, z6⟩, ⟨y0, y1, y2, y3, y4, y5, y6⟩, ⟨x0, x1, x2, x3, x4, x5, x6⟩, hlt0, hlt1⟩ := F7.out.cells
    obtain ⟨⟨o0, o1, o2, o3, o4, o5⟩, ⟨u0, u1, u2, u3, u4⟩, og0, og1⟩ := F7.out.outc
    go_wp2_with (obtain ⟨w8, hwS⟩ : ∃ wS, wS = (((((((w7).setCell ⟨w.heap.size, 0, none⟩ (.slice TA n tc)).setCell ⟨w.heap.size, 1, none⟩ (.int .i64 ((i7 : Nat) : Int))).setCell ⟨w.heap.size, 2, none⟩ (.slice SA ns sc)).setCell ⟨w.heap.size, 3, none⟩ (.slice EA7 ne7 ec7)).setCell ⟨w.heap.size, 4, none⟩ (.int .i64 ((d7 : Nat) : Int))).setCell ⟨w.heap.size, 5, none⟩ (.int .i64 ((c7 : Nat) : Int))).setCell ⟨w.heap.size, 6, none⟩ (.int .i64 ((p7 : Nat) : Int)) := ⟨_, rfl⟩; rw [← hwS]; have F8 := Lib.hid (F6.out.take b7 h7 hwS); have HO8 := Lib.hid (F6.out.takeO b7 HO7.out hwS); clear hwS b7 h7; clear r0 r1 r2 r3 r4 r5 r6 z0 z1 z2 z3 z4 z5 z6 y0 y1 y2 y3 y4 y5 y6 x0 x1 x2 x3 x4 x5 x6 hlt0 hlt1; clear o0 o1 o2 o3 o4 o5 u0 u1 u2 u3 u4 og0 og1; obtain ⟨⟨r0, r1, r2, r3, r4, r5, r6⟩, ⟨z0, z1, z2, z3, z4, z5, z6⟩, ⟨y0, y1, y2, y3, y4, y5, y6⟩, ⟨x0, x1, x2, x3, x4, x5, x6⟩, hlt0, hlt1⟩ := F8.out.cells; obtain ⟨⟨o0, o1, o2, o3, o4, o5⟩, ⟨u0, u1, u2, u3, u4⟩, og0, og1⟩ := F8.out.outc)
    clear r0 r1 r2 r3 r4 r5 r6 z0 z1 z2 z3 z4 z5 z6 y0 y1 y2 y3 y4 y5 y6 x0 x1 x2 x3 x4 x5 x6 hlt0 hlt1
    clear o0 o1 o2 o3 o4 o5 u0 u1 u2 u3 u4 og0 og1
    refine (swant F8.out.st tc tSemi).mono ?_
    rintro e w10 ⟨v, rfl, h10, b10⟩
    rw [HZ.out] at h10
    obtain ⟨i10, EA10, ne10, ec10, d10, c10, p10, rfl, h10⟩ := h10
    have F10 := Lib.hid (F8.out.call b10)
    have HO10 := Lib.hid (HO8.out.next b10)
    obtain ⟨⟨r0, r1, r2, r3, r4, r5, r6⟩, ⟨z0, z1, z2, z3, z4, z5, z6⟩, ⟨y0, y1, y2, y3, y4, y5, y6⟩, ⟨x0, x1, x2, x3, x4, x5, x6⟩, hlt0, hlt1⟩ := F10.out.cells
    obtain ⟨⟨o0, o1, o2, o3, o4, o5⟩, ⟨u0, u1, u2, u3, u4⟩, og0, og1⟩ := F10.out.outc
    go_wp2_with (obtain ⟨w4, hwS⟩ : ∃ wS, wS = (((((((w10).setCell ⟨w.heap.size, 0, none⟩ (.slice TA n tc)).setCell ⟨w.heap.size, 1, none⟩ (.int .i64 ((i10 : Nat) : Int))).setCell ⟨w.heap.size, 2, none⟩ (.slice SA ns sc)).setCell ⟨w.heap.size, 3, none⟩ (.slice EA10 ne10 ec10)).setCell ⟨w.heap.size, 4, none⟩ (.int .i64 ((d10 : Nat) : Int))).setCell ⟨w.heap.size, 5, none⟩ (.int .i64 ((c10 : Nat) : Int))).setCell ⟨w.heap.size, 6, none⟩ (.int .i64 ((p10 : Nat) : Int)) := ⟨_, rfl⟩; rw [← hwS]; have F4 := Lib.hid (F8.out.take b10 h10 hwS); have HO4 := Lib.hid (F8.out.takeO b10 HO10.out hwS); clear hwS b10 h10; clear r0 r1 r2 r3 r4 r5 r6 z0 z1 z2 z3 z4 z5 z6 y0 y1 y2 y3 y4 y5 y6 x0 x1 x2 x3 x4 x5 x6 hlt0 hlt1; clear o0 o1 o2 o3 o4 o5 u0 u1 u2 u3 u4 og0 og1; obtain ⟨⟨r0, r1, r2, r3, r4, r5, r6⟩, ⟨z0, z1, z2, z3, z4, z5, z6⟩, ⟨y0, y1, y2, y3, y4, y5, y6⟩, ⟨x0, x1, x2, x3, x4, x5, x6⟩, hlt0, hlt1⟩ := F4.out.cells; obtain ⟨⟨o0, o1, o2, o3, o4, o5⟩, ⟨u0, u1, u2, u3, u4⟩, og0, og1⟩ := F4.out.outc)
    have HLN := Lib.hid (show l.length = m from HK.out.1)
    obtain ⟨SSS, hSSS⟩ : ∃ SSS, SSS = (sz).ss := ⟨_, rfl⟩
    have HSSS := Lib.hid hSSS
    have HNN := Lib.hid (show SSS.length = ns ∧ ns < 64 from ⟨by rw [hSSS]; exact F4.out.st.ens.symm, HNS.out.2⟩)
    have hn2 : ns + 1 ≤ 1000000 := by have := HNS.out.2; omega
    have hn3 : ns ≤ 1000000 := by omega
    have HB4 := Lib.hid (show ∀ W, Below w4.heap.size w4 W → W.heap[w.heap.size]? = some (.cells #[.slice TA n tc, .int .i64 ((i10 : Nat) : Int), .slice SA ns sc, .slice EA10 ne10 ec10, .int .i64 ((d10 : Nat) : Int), .int .i64 ((c10 : Nat) : Int), .int .i64 ((p10 : Nat) : Int)] 165 (0, 0)) ∧ W.heap[w1.heap.size]? = some (.cells #[.int .i64 1, .int .i64 ((vn : Nat) : Int), .string vm, (.slice A m cap), .int .i64 0, .int .i64 ((ps : Nat) : Int)] 93 (0, 0)) ∧ W.heap[w.heap.size + 1]? = some (.cells #[(.slice none 0 0), (.int .i64 0), (.slice none 0 0), (.slice none 0 0), (.int .i64 0), (.int .i64 0), (.int .i64 0)] 165 (0, 0)) ∧ w.heap.size + 1 < W.heap.size ∧ w1.heap.size < W.heap.size from fun W hW => by
     have hF := F4.out.call hW
     have hx := hF.ex _ (List.mem_cons_self ..)
     exact ⟨hF.bx.k0, hx.2, hF.bx.k1, hF.bx.lt, (Array.getElem?_eq_some_iff.1 hx.2).1⟩)
    have HS4 := Lib.hid (show ∀ W, Below w4.heap.size w4 W → OwnSX X W 0 SA sc SSS from fun W hW => by
     rw [HSSS.out]
     exact ((F4.out.call hW).st.rr.ownS).re fun k hk => .inl ((fun k (hk : X k) => (Or.inl hk : XA X A k)) k hk))
    have HV4 := Lib.hid (show ∀ W, Below w4.heap.size w4 W → ArgsV X 0 W (.slice A m cap) (⟨1, vn, vm, l, 0, ps⟩ : Sm).shape from fun W hW => ⟨A, cap, by rw [HLN.out], (HO4.out.next hW).more (Nat.zero_le _), fun k hk hx => by have h1 := (HO4.out.lt k hk).1; have h2 := HXX.out k hx; have h3 := HLB.out.1; omega⟩)
    clear hSSS
    go_region_law (first | (have u1 := HS4.out ((w4.alloc (.cells #[] 93)).drew) ((one_new w4 (.cells #[] 93)).drew); have u2 : ((w4.alloc (.cells #[] 93)).drew).heap[w4.heap.size]? = some (.cells #[] 93 (0, 0)) := heap_alloc_new w4 (.cells #[] 93); have u3 := ((one_new w4 (.cells #[] 93)).drew).size; refine @appS0_step X ((w4.alloc (.cells #[] 93)).drew) _ _ _ _ _ _ rfl (.tmp 102) (.tmp 105) ?_ w4.heap.size w4.heap.size ?_ SA sc ns SSS ?_ ?_ ?_ ?_ ?_ ?_ ?_ ?_; rfl; rfl; exact HNN.out.1; rfl; exact u1; exact u2; exact Nat.le_refl _; exact u3; exact hn3; clear u1 u2 u3; intro A1 k1 w5 ho1 hb1 hA1; have b5 : Below w4.heap.size w4 w5 := bnext ((one_new w4 (.cells #[] 93)).drew) hb1; obtain ⟨p0, p1, p2, p3, p4⟩ := HB4.out w5 b5; obtain ⟨o0, o1, o2, o3, o4, o5⟩ := cells6 p1; have hlt5 : w1.heap.size < w5.heap.size := p4; clear p0 p1 p2 p3) | (have u1 := HS4.out (((w4.alloc (.cells #[] 93)).alloc (.cells #[.int .i64 1, .int .i64 ((vn : Nat) : Int), .string vm, (.slice A m cap), .int .i64 0, .int .i64 ((ps : Nat) : Int)] 93)).drew) ((al_two w4 (.cells #[] 93) (.cells #[.int .i64 1, .int .i64 ((vn : Nat) : Int), .string vm, (.slice A m cap), .int .i64 0, .int .i64 ((ps : Nat) : Int)] 93)).drew); have u2 : (((w4.alloc (.cells #[] 93)).alloc (.cells #[.int .i64 1, .int .i64 ((vn : Nat) : Int), .string vm, (.slice A m cap), .int .i64 0, .int .i64 ((ps : Nat) : Int)] 93)).drew).heap[w4.heap.size]? = some (.cells #[] 93 (0, 0)) := al_old w4 #[] 93 (.cells #[.int .i64 1, .int .i64 ((vn : Nat) : Int), .string vm, (.slice A m cap), .int .i64 0, .int .i64 ((ps : Nat) : Int)] 93); have u3 := ((al_two w4 (.cells #[] 93) (.cells #[.int .i64 1, .int .i64 ((vn : Nat) : Int), .string vm, (.slice A m cap), .int .i64 0, .int .i64 ((ps : Nat) : Int)] 93)).drew).size; refine @appS0_step X (((w4.alloc (.cells #[] 93)).alloc (.cells #[.int .i64 1, .int .i64 ((vn : Nat) : Int), .string vm, (.slice A m cap), .int .i64 0, .int .i64 ((ps : Nat) : Int)] 93)).drew) _ _ _ _ _ _ rfl (.tmp 102) (.tmp 105) ?_ w4.heap.size w4.heap.size ?_ SA sc ns SSS ?_ ?_ ?_ ?_ ?_ ?_ ?_ ?_; rfl; rfl; exact HNN.out.1; rfl; exact u1; exact u2; exact Nat.le_refl _; exact u3; exact hn3; clear u1 u2 u3; intro A1 k1 w5 ho1 hb1 hA1; have b5 : Below w4.heap.size w4 w5 := bnext ((al_two w4 (.cells #[] 93) (.cells #[.int .i64 1, .int .i64 ((vn : Nat) : Int), .string vm, (.slice A m cap), .int .i64 0, .int .i64 ((ps : Nat) : Int)] 93)).drew) hb1; obtain ⟨p0, p1, p2, p3, p4⟩ := HB4.out w5 b5; obtain ⟨o0, o1, o2, o3, o4, o5⟩ := cells6 p1; have hlt5 : w1.heap.size < w5.heap.size := p4; have hE5 : w5.heap[w4.heap.size + 1]? = some (.cells #[.int .i64 1, .int .i64 ((vn : Nat) : Int), .string vm, (.slice A m cap), .int .i64 0, .int .i64 ((ps : Nat) : Int)] 93 (0, 0)) := bl_on (w := ((w4.alloc (.cells #[] 93)).alloc (.cells #[.int .i64 1, .int .i64 ((vn : Nat) : Int), .string vm, (.slice A m cap), .int .i64 0, .int .i64 ((ps : Nat) : Int)] 93)).drew) (show (((w4.alloc (.cells #[] 93)).alloc (.cells #[.int .i64 1, .int .i64 ((vn : Nat) : Int), .string vm, (.slice A m cap), .int .i64 0, .int .i64 ((ps : Nat) : Int)] 93)).drew).heap[w4.heap.size + 1]? = some (.cells #[.int .i64 1, .int .i64 ((vn : Nat) : Int), .string vm, (.slice A m cap), .int .i64 0, .int .i64 ((ps : Nat) : Int)] 93 (0, 0)) from al_new2 w4 #[.int .i64 1, .int .i64 ((vn : Nat) : Int), .string vm, (.slice A m cap), .int .i64 0, .int .i64 ((ps : Nat) : Int)] 93 (.cells #[] 93)) hb1; clear p0 p1 p2 p3) | (have u1 := HS4.out (((w4.alloc (.cells #[.int .i64 1, .int .i64 ((vn : Nat) : Int), .string vm, (.slice A m cap), .int .i64 0, .int .i64 ((ps : Nat) : Int)] 93)).alloc (.cells #[] 93)).drew) ((al_two w4 (.cells #[.int .i64 1, .int .i64 ((vn : Nat) : Int), .string vm, (.slice A m cap), .int .i64 0, .int .i64 ((ps : Nat) : Int)] 93) (.cells #[] 93)).drew); have u2 : (((w4.alloc (.cells #[.int .i64 1, .int .i64 ((vn : Nat) : Int), .string vm, (.slice A m cap), .int .i64 0, .int .i64 ((ps : Nat) : Int)] 93)).alloc (.cells #[] 93)).drew).heap[(w4.heap.size + 1)]? = some (.cells #[] 93 (0, 0)) := al_new2 w4 #[] 93 (.cells #[.int .i64 1, .int .i64 ((vn : Nat) : Int), .string vm, (.slice A m cap), .int .i64 0, .int .i64 ((ps : Nat) : Int)] 93); have u3 := ((al_two w4 (.cells #[.int .i64 1, .int .i64 ((vn : Nat) : Int), .string vm, (.slice A m cap), .int .i64 0, .int .i64 ((ps : Nat) : Int)] 93) (.cells #[] 93)).drew).size; refine @appS0_step X (((w4.alloc (.cells #[.int .i64 1, .int .i64 ((vn : Nat) : Int), .string vm, (.slice A m cap), .int .i64 0, .int .i64 ((ps : Nat) : Int)] 93)).alloc (.cells #[] 93)).drew) _ _ _ _ _ _ rfl (.tmp 102) (.tmp 105) ?_ w4.heap.size (w4.heap.size + 1) ?_ SA sc ns SSS ?_ ?_ ?_ ?_ ?_ ?_ ?_ ?_; rfl; rfl; exact HNN.out.1; rfl; exact u1; exact u2; exact Nat.le_succ _; exact u3; exact hn3; clear u1 u2 u3; intro A1 k1 w5 ho1 hb1 hA1; have b5 : Below w4.heap.size w4 w5 := bnext ((al_two w4 (.cells #[.int .i64 1, .int .i64 ((vn : Nat) : Int), .string vm, (.slice A m cap), .int .i64 0, .int .i64 ((ps : Nat) : Int)] 93) (.cells #[] 93)).drew) hb1; obtain ⟨p0, p1, p2, p3, p4⟩ := HB4.out w5 b5; obtain ⟨o0, o1, o2, o3, o4, o5⟩ := cells6 p1; have hlt5 : w1.heap.size < w5.heap.size := p4; have hE5 : w5.heap[w4.heap.size]? = some (.cells #[.int .i64 1, .int .i64 ((vn : Nat) : Int), .string vm, (.slice A m cap), .int .i64 0, .int .i64 ((ps : Nat) : Int)] 93 (0, 0)) := bl_on (w := ((w4.alloc (.cells #[.int .i64 1, .int .i64 ((vn : Nat) : Int), .string vm, (.slice A m cap), .int .i64 0, .int .i64 ((ps : Nat) : Int)] 93)).alloc (.cells #[] 93)).drew) (show (((w4.alloc (.cells #[.int .i64 1, .int .i64 ((vn : Nat) : Int), .string vm, (.slice A m cap), .int .i64 0, .int .i64 ((ps : Nat) : Int)] 93)).alloc (.cells #[] 93)).drew).heap[w4.heap.size]? = some (.cells #[.int .i64 1, .int .i64 ((vn : Nat) : Int), .string vm, (.slice A m cap), .int .i64 0, .int .i64 ((ps : Nat) : Int)] 93 (0, 0)) from al_old w4 #[.int .i64 1, .int .i64 ((vn : Nat) : Int), .string vm, (.slice A m cap), .int .i64 0, .int .i64 ((ps : Nat) : Int)] 93 (.cells #[] 93)) hb1; clear p0 p1 p2 p3) | (have u1 := ho1.next (one_new w5 (.cells #[.int .i64 1, .int .i64 ((vn : Nat) : Int), .string vm, (.slice A m cap), .int .i64 0, .int .i64 ((ps : Nat) : Int)] 93)); have u2 : (w5.alloc (.cells #[.int .i64 1, .int .i64 ((vn : Nat) : Int), .string vm, (.slice A m cap), .int .i64 0, .int .i64 ((ps : Nat) : Int)] 93)).heap[w5.heap.size]? = some (.cells #[.int .i64 1, .int .i64 ((vn : Nat) : Int), .string vm, (.slice A m cap), .int .i64 0, .int .i64 ((ps : Nat) : Int)] 93 (0, 0)) := heap_alloc_new w5 (.cells #[.int .i64 1, .int .i64 ((vn : Nat) : Int), .string vm, (.slice A m cap), .int .i64 0, .int .i64 ((ps : Nat) : Int)] 93); have u3 := HV4.out (w5.alloc (.cells #[.int .i64 1, .int .i64 ((vn : Nat) : Int), .string vm, (.slice A m cap), .int .i64 0, .int .i64 ((ps : Nat) : Int)] 93)) (bnext b5 (one_new w5 (.cells #[.int .i64 1, .int .i64 ((vn : Nat) : Int), .string vm, (.slice A m cap), .int .i64 0, .int .i64 ((ps : Nat) : Int)] 93))); refine @appS_step X (w5.alloc (.cells #[.int .i64 1, .int .i64 ((vn : Nat) : Int), .string vm, (.slice A m cap), .int .i64 0, .int .i64 ((ps : Nat) : Int)] 93)) _ _ _ _ _ _ rfl (.tmp 106) (.tmp 108) ?_ 0 A1 k1 SSS ns ?_ ?_ ?_ w5.heap.size ?_ (⟨1, vn, vm, l, 0, ps⟩, (.slice A m cap)) ?_ ?_ ?_ ?_ ?_; rfl; exact HNN.out.1; rfl; exact u1; rfl; exact u2; exact u3; exact hn2; exact Nat.zero_le _; clear u1 u2 u3; intro A2 k2 w6 ho2 hg2; have b6 : Below w4.heap.size w4 w6 := (bnext b5 (one_new w5 (.cells #[.int .i64 1, .int .i64 ((vn : Nat) : Int), .string vm, (.slice A m cap), .int .i64 0, .int .i64 ((ps : Nat) : Int)] 93))).grown hg2 ((bnext b5 (one_new w5 (.cells #[.int .i64 1, .int .i64 ((vn : Nat) : Int), .string vm, (.slice A m cap), .int .i64 0, .int .i64 ((ps : Nat) : Int)] 93))).size) (fun k hk => hA1 k hk); obtain ⟨p0, p1, p2, p3, p4⟩ := HB4.out w6 b6; obtain ⟨r0, r1, r2, r3, r4, r5, r6⟩ := cells7 p0; obtain ⟨y0, y1, y2, y3, y4, y5, y6⟩ := frees7 p0; obtain ⟨z0, z1, z2, z3, z4, z5, z6⟩ := cells7 p2; obtain ⟨x0, x1, x2, x3, x4, x5, x6⟩ := frees7 p2; have hl6 : w.heap.size + 1 < w6.heap.size := p3; have hl7 : w.heap.size < w6.heap.size := Nat.lt_trans (Nat.lt_succ_self _) p3; have HB6 := Lib.hid b6; have HO6 := Lib.hid ho2; clear p0 p1 p2 p3 p4 ho2 hg2 b6) | (have u1 := ho1; have u2 : (w5).heap[(w4.heap.size + 1)]? = some (.cells #[.int .i64 1, .int .i64 ((vn : Nat) : Int), .string vm, (.slice A m cap), .int .i64 0, .int .i64 ((ps : Nat) : Int)] 93 (0, 0)) := hE5; have u3 := HV4.out w5 b5; refine @appS_step X (w5) _ _ _ _ _ _ rfl (.tmp 106) (.tmp 108) ?_ 0 A1 k1 SSS ns ?_ ?_ ?_ (w4.heap.size + 1) ?_ (⟨1, vn, vm, l, 0, ps⟩, (.slice A m cap)) ?_ ?_ ?_ ?_ ?_; rfl; exact HNN.out.1; rfl; exact u1; rfl; exact u2; exact u3; exact hn2; exact Nat.zero_le _; clear u1 u2 u3; intro A2 k2 w6 ho2 hg2; have b6 : Below w4.heap.size w4 w6 := (b5).grown hg2 (b5.size) (fun k hk => hA1 k hk); obtain ⟨p0, p1, p2, p3, p4⟩ := HB4.out w6 b6; obtain ⟨r0, r1, r2, r3, r4, r5, r6⟩ := cells7 p0; obtain ⟨y0, y1, y2, y3, y4, y5, y6⟩ := frees7 p0; obtain ⟨z0, z1, z2, z3, z4, z5, z6⟩ := cells7 p2; obtain ⟨x0, x1, x2, x3, x4, x5, x6⟩ := frees7 p2; have hl6 : w.heap.size + 1 < w6.heap.size := p3; have hl7 : w.heap.size < w6.heap.size := Nat.lt_trans (Nat.lt_succ_self _) p3; have HB6 := Lib.hid b6; have HO6 := Lib.hid ho2; clear p0 p1 p2 p3 p4 ho2 hg2 b6) | (have u1 := ho1; have u2 : (w5).heap[w4.heap.size]? = some (.cells #[.int .i64 1, .int .i64 ((vn : Nat) : Int), .string vm, (.slice A m cap), .int .i64 0, .int .i64 ((ps : Nat) : Int)] 93 (0, 0)) := hE5; have u3 := HV4.out w5 b5; refine @appS_step X (w5) _ _ _ _ _ _ rfl (.tmp 106) (.tmp 108) ?_ 0 A1 k1 SSS ns ?_ ?_ ?_ w4.heap.size ?_ (⟨1, vn, vm, l, 0, ps⟩, (.slice A m cap)) ?_ ?_ ?_ ?_ ?_; rfl; exact HNN.out.1; rfl; exact u1; rfl; exact u2; exact u3; exact hn2; exact Nat.zero_le _; clear u1 u2 u3; intro A2 k2 w6 ho2 hg2; have b6 : Below w4.heap.size w4 w6 := (b5).grown hg2 (b5.size) (fun k hk => hA1 k hk); obtain ⟨p0, p1, p2, p3, p4⟩ := HB4.out w6 b6; obtain ⟨r0, r1, r2, r3, r4, r5, r6⟩ := cells7 p0; obtain ⟨y0, y1, y2, y3, y4, y5, y6⟩ := frees7 p0; obtain ⟨z0, z1, z2, z3, z4, z5, z6⟩ := cells7 p2; obtain ⟨x0, x1, x2, x3, x4, x5, x6⟩ := frees7 p2; have hl6 : w.heap.size + 1 < w6.heap.size := p3; have hl7 : w.heap.size < w6.heap.size := Nat.lt_trans (Nat.lt_succ_self _) p3; have HB6 := Lib.hid b6; have HO6 := Lib.hid ho2; clear p0 p1 p2 p3 p4 ho2 hg2 b6))
    all_goals
     go_wp2
     obtain ⟨wS, hwS⟩ : ∃ wS, wS = ((((((((w6.setCell ⟨w.heap.size, 2, none⟩ (.slice A2 (ns + 1) k2))).setCell ⟨w.heap.size + 1, 0, none⟩ (.slice TA n tc)).setCell ⟨w.heap.size + 1, 1, none⟩ (.int .i64 ((i10 : Nat) : Int))).setCell ⟨w.heap.size + 1, 2, none⟩ (.slice A2 (ns + 1) k2)).setCell ⟨w.heap.size + 1, 3, none⟩ (.slice EA10 ne10 ec10)).setCell ⟨w.heap.size + 1, 4, none⟩ (.int .i64 ((d10 : Nat) : Int))).setCell ⟨w.heap.size + 1, 5, none⟩ (.int .i64 ((c10 : Nat) : Int))).setCell ⟨w.heap.size + 1, 6, none⟩ (.int .i64 ((p10 : Nat) : Int)) := ⟨_, rfl⟩
     rw [← hwS]
     obtain ⟨f1, f2, f3⟩ := FR.putS (X := X) (n2 := ns + 1) (x := ⟨1, vn, vm, l, 0, ps⟩) F4.out (fun k (hk : X k) => (Or.inl hk : XA X A k)) HB6.out (by rw [← HSSS.out]; exact HO6.out) (by rw [← HSSS.out]; have := HNN.out; omega) rfl hwS
     obtain ⟨g0, g1, g2, g3, g4, g5, g6⟩ := cells7 f1
     clear hwS f1
     exact bodyPost_ret (v := .agg #[.slice TA n tc, .int .i64 ((i10 : Nat) : Int), .slice A2 (ns + 1) k2, .slice EA10 ne10 ec10, .int .i64 ((d10 : Nat) : Int), .int .i64 ((c10 : Nat) : Int), .int .i64 ((p10 : Nat) : Int)]) (by simp [results, Tryz.results88, go_sem, g0, g1, g2, g3, g4, g5, g6]) rfl ⟨_, A2, ns + 1, k2, rfl, by rw [HR.out]; exact f2.ro, f3⟩
end
end Go.Proofs.YtghlnncfigkkaaaGreatDoor
