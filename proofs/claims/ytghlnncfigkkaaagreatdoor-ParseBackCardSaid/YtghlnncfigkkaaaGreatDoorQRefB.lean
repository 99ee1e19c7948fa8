/-
  The reference's want, name, number, level, calls.
-/
import Derived.Test.YtghlnncfigkkaaaGreatDoorQRefS
import Derived.Deep.DeepCutAuto
namespace Go.Proofs.YtghlnncfigkkaaaGreatDoor
set_option linter.unusedVariables false
set_option linter.unusedSimpArgs false
open Go.RowKit
attribute [local go_sem ↓] tok_field3 tok_field0
section
variable {X : Nat → Prop} {TA : Option Addr} {tc : Nat} {L : List Tok} {s : PS} {w w' : World} {SA : Option Addr} {sc : Nat} {EA : Option Addr} {ec : Nat}
theorem rfail_at (w : World) (h : RR X TA L s w SA sc EA ec) (tc : Nat) (k : Nat) (hk : k ≠ 0) :
  Calls Tryz.prog 139 #[.agg #[.slice TA L.length tc, .int .i64 ((s.i : Nat) : Int), .slice SA s.ss.length sc, .slice EA s.es.length ec, .int .i64 ((s.deep : Nat) : Int), .int .i64 ((eC s : Nat) : Int), .int .i64 ((eP s : Nat) : Int)], .int .i64 k] w fun e w' => e = .returned (RVal TA L.length tc (failP L s k) SA sc EA ec) ∧ Below w.heap.size w w' := rfail_any w h tc k hk
theorem RR.fail (h : RR X TA L s w SA sc EA ec) {k : Nat} (hk : k ≠ 0) : RR X TA L (failP L s k) w SA sc EA ec := by
 unfold failP
 split
 ·exact h.err' hk
 ·exact h
theorem RR.adv (h : RR X TA L s w SA sc EA ec) (hi : s.i < L.length) : RR X TA L (advP s) w SA sc EA ec :=
 ⟨h.ownS, h.ownE, h.toks, h.err, h.len, hi, h.dd, Nat.le_succ_of_le h.el, h.sl, h.xx⟩
theorem RR.deep (h : RR X TA L s w SA sc EA ec) (d : Nat) (hd : d ≤ 32) : RR X TA L { s with deep := d } w SA sc EA ec :=
 ⟨h.ownS, h.ownE, h.toks, h.err, h.len, h.ii, hd, h.el, h.sl, h.xx⟩
theorem RR.want (h : RR X TA L s w SA sc EA ec) (t : ByteArray) : RR X TA L (wantP L s t) w SA sc EA ec := by
 unfold wantP
 split
 ·rename_i hq; exact h.adv (isP_lt hq)
 ·exact h.fail (by decide)
theorem fail_cells (k : Nat) : (failP L s k).i = s.i ∧ (failP L s k).ss = s.ss ∧ (failP L s k).es = s.es ∧ (failP L s k).deep = s.deep := by
 unfold failP
 split <;> exact ⟨rfl, rfl, rfl, rfl⟩
theorem rval_fail (k tc : Nat) : RVal TA L.length tc (failP L s k) SA sc EA ec = .agg #[.slice TA L.length tc, .int .i64 s.i, .slice SA s.ss.length sc, .slice EA s.es.length ec, .int .i64 s.deep, .int .i64 (eC (failP L s k)), .int .i64 (eP (failP L s k))] := by
 obtain ⟨h1, h2, h3, h4⟩ := fail_cells (L := L) (s := s) k
 unfold RVal RCell
 rw [h1, h2, h3, h4]
set_option maxRecDepth 100000 in
set_option maxHeartbeats 2000000 in
theorem rwant_any (w : World) (h : RR X TA L s w SA sc EA ec) (tc : Nat) (t : ByteArray) :
  Calls Tryz.prog 143 #[.agg #[.slice TA L.length tc, .int .i64 ((s.i : Nat) : Int), .slice SA s.ss.length sc, .slice EA s.es.length ec, .int .i64 ((s.deep : Nat) : Int), .int .i64 ((eC s : Nat) : Int), .int .i64 ((eP s : Nat) : Int)], .string t] w fun e w' => e = .returned (RVal TA L.length tc (wantP L s t) SA sc EA ec) ∧ Below w.heap.size w w' := by
 have HI := Lib.hid (fun w' hb => ris_any w' (h.next (w' := w') hb) tc t)
 have HFA := Lib.hid (fun w' hb => rfail_at w' (h.next (w' := w') hb) tc 130 (by decide))
 have hil := h.ii
 have hll := h.len
 cases hq : isP L s t with
 | true =>
  rw [hq] at HI
  have HR := Lib.hid (show wantP L s t = advP s from by unfold wantP; rw [hq]; rfl)
  clear h hq
  go_enter Tryz.func143, Tryz.ntmps143
  go_wp2_with fail
  refine (HI.out _ (((Below.refl _ _).alloc (Nat.le_refl _) _).alloc (by simp) _)).mono ?_
  rintro e w1 ⟨rfl, b1⟩
  have B1 := Lib.hid (Bx.made_call b1)
  clear b1
  obtain ⟨r0, r1, r2, r3, r4, r5, r6⟩ := cells7 B1.out.k0
  obtain ⟨z0, z1, z2, z3, z4, z5, z6⟩ := cells7 B1.out.k1
  obtain ⟨y0, y1, y2, y3, y4, y5, y6⟩ := frees7 B1.out.k0
  obtain ⟨x0, x1, x2, x3, x4, x5, x6⟩ := frees7 B1.out.k1
  have hlt0 := B1.out.lt0
  have hlt1 := B1.out.lt
  go_wp2
  obtain ⟨wS, hwS⟩ : ∃ wS, wS = (((((((w1.setCell ⟨w.heap.size, 1, none⟩ (.int .i64 ((s.i : Int) + 1))).setCell ⟨w.heap.size + 1, 0, none⟩ (.slice TA L.length tc)).setCell ⟨w.heap.size + 1, 1, none⟩ (.int .i64 ((s.i : Int) + 1))).setCell ⟨w.heap.size + 1, 2, none⟩ (.slice SA s.ss.length sc)).setCell ⟨w.heap.size + 1, 3, none⟩ (.slice EA s.es.length ec)).setCell ⟨w.heap.size + 1, 4, none⟩ (.int .i64 ((s.deep : Nat) : Int))).setCell ⟨w.heap.size + 1, 5, none⟩ (.int .i64 ((eC s : Nat) : Int))).setCell ⟨w.heap.size + 1, 6, none⟩ (.int .i64 ((eP s : Nat) : Int)) := ⟨_, rfl⟩
  rw [← hwS]
  have hBS := Bx.all1 (B1.out.set0 1 (.int .i64 ((s.i : Int) + 1))) hwS
  obtain ⟨d0, d1, d2, d3, d4, d5, d6⟩ := cells7 hBS.k1
  clear hwS
  exact bodyPost_ret (v := RVal TA L.length tc (advP s) SA sc EA ec) (by simp [results, Tryz.results143, go_sem, d0, d1, d2, d3, d4, d5, d6, RVal, RCell, advP, eC, eP]) rfl ⟨by rw [HR.out], hBS.hb⟩
 | false =>
  rw [hq] at HI
  have HR := Lib.hid (show wantP L s t = failP L s 130 from by unfold wantP; rw [hq]; rfl)
  clear h hq
  go_enter Tryz.func143, Tryz.ntmps143
  go_wp2_with fail
  refine (HI.out _ (((Below.refl _ _).alloc (Nat.le_refl _) _).alloc (by simp) _)).mono ?_
  rintro e w1 ⟨rfl, b1⟩
  have B1 := Lib.hid (Bx.made_call b1)
  clear b1
  obtain ⟨r0, r1, r2, r3, r4, r5, r6⟩ := cells7 B1.out.k0
  obtain ⟨z0, z1, z2, z3, z4, z5, z6⟩ := cells7 B1.out.k1
  obtain ⟨y0, y1, y2, y3, y4, y5, y6⟩ := frees7 B1.out.k0
  obtain ⟨x0, x1, x2, x3, x4, x5, x6⟩ := frees7 B1.out.k1
  have hlt0 := B1.out.lt0
  have hlt1 := B1.out.lt
  go_wp2_with fail
  have HF := HFA.out w1 B1.out.hb
  rw [rval_fail] at HF
  refine HF.mono ?_
  clear HF
  rintro e w3 ⟨rfl, b3⟩
  clear r0 r1 r2 r3 r4 r5 r6 z0 z1 z2 z3 z4 z5 z6 y0 y1 y2 y3 y4 y5 y6 x0 x1 x2 x3 x4 x5 x6 hlt0 hlt1
  have B3 := Lib.hid (B1.out.call b3)
  clear b3
  obtain ⟨r0, r1, r2, r3, r4, r5, r6⟩ := cells7 B3.out.k0
  obtain ⟨z0, z1, z2, z3, z4, z5, z6⟩ := cells7 B3.out.k1
  obtain ⟨y0, y1, y2, y3, y4, y5, y6⟩ := frees7 B3.out.k0
  obtain ⟨x0, x1, x2, x3, x4, x5, x6⟩ := frees7 B3.out.k1
  have hlt0 := B3.out.lt0
  have hlt1 := B3.out.lt
  go_wp2
  obtain ⟨wS, hwS⟩ : ∃ wS, wS = (((((((w3).setCell ⟨w.heap.size + 1, 0, none⟩ (.slice TA L.length tc)).setCell ⟨w.heap.size + 1, 1, none⟩ (.int .i64 ((s.i : Nat) : Int))).setCell ⟨w.heap.size + 1, 2, none⟩ (.slice SA s.ss.length sc)).setCell ⟨w.heap.size + 1, 3, none⟩ (.slice EA s.es.length ec)).setCell ⟨w.heap.size + 1, 4, none⟩ (.int .i64 ((s.deep : Nat) : Int))).setCell ⟨w.heap.size + 1, 5, none⟩ (.int .i64 ((eC (failP L s 130) : Nat) : Int))).setCell ⟨w.heap.size + 1, 6, none⟩ (.int .i64 ((eP (failP L s 130) : Nat) : Int)) := ⟨_, rfl⟩
  rw [← hwS]
  have hBS := Bx.all1 (B3.out) hwS
  obtain ⟨d0, d1, d2, d3, d4, d5, d6⟩ := cells7 hBS.k1
  clear hwS
  exact bodyPost_ret (v := RVal TA L.length tc (failP L s 130) SA sc EA ec) (by simp [results, Tryz.results143, go_sem, d0, d1, d2, d3, d4, d5, d6, rval_fail]) rfl ⟨by rw [HR.out], hBS.hb⟩
set_option maxRecDepth 100000 in
set_option maxHeartbeats 2000000 in
theorem rname_any (w : World) (h : RR X TA L s w SA sc EA ec) (tc : Nat) :
  Calls Tryz.prog 142 #[.agg #[.slice TA L.length tc, .int .i64 ((s.i : Nat) : Int), .slice SA s.ss.length sc, .slice EA s.es.length ec, .int .i64 ((s.deep : Nat) : Int), .int .i64 ((eC s : Nat) : Int), .int .i64 ((eP s : Nat) : Int)]] w fun e w' => e = .returned (.tuple #[RVal TA L.length tc (nameP L s).1 SA sc EA ec, .string (nameP L s).2]) ∧ Below w.heap.size w w' := by
 obtain ⟨kd, tx, nm, ps, hnow⟩ : ∃ kd tx nm ps, nowP L s = ⟨kd, tx, nm, ps⟩ := ⟨_, _, _, _, rfl⟩
 have HN := Lib.hid (fun w' hb => rnow_at w' (h.next (w' := w') hb) tc hnow)
 have HFA := Lib.hid (fun w' hb => rfail_at w' (h.next (w' := w') hb) tc 130 (by decide))
 have HC := Lib.hid (h.eC_some)
 have hil := h.ii
 have hll := h.len
 by_cases herr : s.err = none
 ·have q : (((eC s : Nat) : Int) != 0) = false := by rw [eC_none herr]; rfl
  by_cases hk : kd = 1
  ·have qk : ((kd : Int) != 1) = false := by rw [bne_eq_false_iff_eq]; omega
   have hlt : s.i < L.length := now_lt (by rw [hnow]; show kd ≠ 0; omega)
   have hlt2 := hlt
   have HR := Lib.hid (show nameP L s = (advP s, tx) from by unfold nameP; rw [hnow]; simp [herr, hk])
   clear h hnow
   go_enter Tryz.func142, Tryz.ntmps142
   go_wp2_with fail
   refine (HN.out _ (((Below.refl _ _).alloc (Nat.le_refl _) _).alloc (by simp) _)).mono ?_
   rintro e w1 ⟨rfl, b1⟩
   have B1 := Lib.hid (Bx.made_call b1)
   clear b1
   obtain ⟨r0, r1, r2, r3, r4, r5, r6⟩ := cells7 B1.out.k0
   obtain ⟨z0, z1, z2, z3, z4, z5, z6⟩ := cells7 B1.out.k1
   obtain ⟨y0, y1, y2, y3, y4, y5, y6⟩ := frees7 B1.out.k0
   obtain ⟨x0, x1, x2, x3, x4, x5, x6⟩ := frees7 B1.out.k1
   have hlt0 := B1.out.lt0
   have hlt1 := B1.out.lt
   go_wp2_with fail
   go_region
   all_goals
    go_wp2
    obtain ⟨wS, hwS⟩ : ∃ wS, wS = (((((((w1.setCell ⟨w.heap.size, 1, none⟩ (.int .i64 ((s.i : Int) + 1))).setCell ⟨w.heap.size + 1, 0, none⟩ (.slice TA L.length tc)).setCell ⟨w.heap.size + 1, 1, none⟩ (.int .i64 ((s.i : Int) + 1))).setCell ⟨w.heap.size + 1, 2, none⟩ (.slice SA s.ss.length sc)).setCell ⟨w.heap.size + 1, 3, none⟩ (.slice EA s.es.length ec)).setCell ⟨w.heap.size + 1, 4, none⟩ (.int .i64 ((s.deep : Nat) : Int))).setCell ⟨w.heap.size + 1, 5, none⟩ (.int .i64 ((eC s : Nat) : Int))).setCell ⟨w.heap.size + 1, 6, none⟩ (.int .i64 ((eP s : Nat) : Int)) := ⟨_, rfl⟩
    rw [← hwS]
    have hBS := ((Bx.all1 (B1.out.set0 1 (.int .i64 ((s.i : Int) + 1))) hwS).alloc (.cells #[.int .i64 1, .string tx, .int .u64 nm, .int .i64 ps] 155)).drew
    obtain ⟨d0, d1, d2, d3, d4, d5, d6⟩ := cells7 hBS.k1
    clear hwS
    exact bodyPost_ret (v := .tuple #[RVal TA L.length tc (advP s) SA sc EA ec, .string tx]) (by simp [results, Tryz.results142, go_sem, d0, d1, d2, d3, d4, d5, d6, RVal, RCell, advP, eC, eP]) rfl ⟨by rw [HR.out], hBS.hb⟩
  ·have qk : ((kd : Int) != 1) = true := by rw [bne_iff_ne]; omega
   have HR := Lib.hid (show nameP L s = (failP L s 130, noB) from by unfold nameP; rw [hnow]; simp [hk])
   clear h hnow
   go_enter Tryz.func142, Tryz.ntmps142
   go_wp2_with fail
   refine (HN.out _ (((Below.refl _ _).alloc (Nat.le_refl _) _).alloc (by simp) _)).mono ?_
   rintro e w1 ⟨rfl, b1⟩
   have B1 := Lib.hid (Bx.made_call b1)
   clear b1
   obtain ⟨r0, r1, r2, r3, r4, r5, r6⟩ := cells7 B1.out.k0
   obtain ⟨z0, z1, z2, z3, z4, z5, z6⟩ := cells7 B1.out.k1
   obtain ⟨y0, y1, y2, y3, y4, y5, y6⟩ := frees7 B1.out.k0
   obtain ⟨x0, x1, x2, x3, x4, x5, x6⟩ := frees7 B1.out.k1
   have hlt0 := B1.out.lt0
   have hlt1 := B1.out.lt
   go_wp2_with fail
   have HF := fun o => HFA.out _ (B1.out.alloc o).hb
   simp only [rval_fail] at HF
   refine (HF _).mono ?_
   clear HF
   rintro e w3 ⟨rfl, b3⟩
   clear r0 r1 r2 r3 r4 r5 r6 z0 z1 z2 z3 z4 z5 z6 y0 y1 y2 y3 y4 y5 y6 x0 x1 x2 x3 x4 x5 x6 hlt0 hlt1
   have B3 := Lib.hid ((B1.out.alloc _).call b3)
   clear b3
   obtain ⟨r0, r1, r2, r3, r4, r5, r6⟩ := cells7 B3.out.k0
   obtain ⟨z0, z1, z2, z3, z4, z5, z6⟩ := cells7 B3.out.k1
   obtain ⟨y0, y1, y2, y3, y4, y5, y6⟩ := frees7 B3.out.k0
   obtain ⟨x0, x1, x2, x3, x4, x5, x6⟩ := frees7 B3.out.k1
   have hlt0 := B3.out.lt0
   have hlt1 := B3.out.lt
   go_wp2
   obtain ⟨wS, hwS⟩ : ∃ wS, wS = (((((((w3).setCell ⟨w.heap.size + 1, 0, none⟩ (.slice TA L.length tc)).setCell ⟨w.heap.size + 1, 1, none⟩ (.int .i64 ((s.i : Nat) : Int))).setCell ⟨w.heap.size + 1, 2, none⟩ (.slice SA s.ss.length sc)).setCell ⟨w.heap.size + 1, 3, none⟩ (.slice EA s.es.length ec)).setCell ⟨w.heap.size + 1, 4, none⟩ (.int .i64 ((s.deep : Nat) : Int))).setCell ⟨w.heap.size + 1, 5, none⟩ (.int .i64 ((eC (failP L s 130) : Nat) : Int))).setCell ⟨w.heap.size + 1, 6, none⟩ (.int .i64 ((eP (failP L s 130) : Nat) : Int)) := ⟨_, rfl⟩
   rw [← hwS]
   have hBS := Bx.all1 (B3.out) hwS
   obtain ⟨d0, d1, d2, d3, d4, d5, d6⟩ := cells7 hBS.k1
   clear hwS
   exact bodyPost_ret (v := .tuple #[RVal TA L.length tc (failP L s 130) SA sc EA ec, .string ⟨#[]⟩]) (by simp [results, Tryz.results142, go_sem, d0, d1, d2, d3, d4, d5, d6, rval_fail]) rfl ⟨by rw [HR.out]; rfl, hBS.hb⟩
 ·have q : (((eC s : Nat) : Int) != 0) = true := by rw [bne_iff_ne]; have := HC.out herr; omega
  have HR := Lib.hid (show nameP L s = (failP L s 130, noB) from by unfold nameP; rw [hnow]; simp [herr, Option.isSome_iff_ne_none])
  clear h hnow
  go_enter Tryz.func142, Tryz.ntmps142
  go_wp2_with fail
  refine (HN.out _ (((Below.refl _ _).alloc (Nat.le_refl _) _).alloc (by simp) _)).mono ?_
  rintro e w1 ⟨rfl, b1⟩
  have B1 := Lib.hid (Bx.made_call b1)
  clear b1
  obtain ⟨r0, r1, r2, r3, r4, r5, r6⟩ := cells7 B1.out.k0
  obtain ⟨z0, z1, z2, z3, z4, z5, z6⟩ := cells7 B1.out.k1
  obtain ⟨y0, y1, y2, y3, y4, y5, y6⟩ := frees7 B1.out.k0
  obtain ⟨x0, x1, x2, x3, x4, x5, x6⟩ := frees7 B1.out.k1
  have hlt0 := B1.out.lt0
  have hlt1 := B1.out.lt
  go_wp2_with fail
  have HF := fun o => HFA.out _ (B1.out.alloc o).hb
  simp only [rval_fail] at HF
  refine (HF _).mono ?_
  clear HF
  rintro e w3 ⟨rfl, b3⟩
  clear r0 r1 r2 r3 r4 r5 r6 z0 z1 z2 z3 z4 z5 z6 y0 y1 y2 y3 y4 y5 y6 x0 x1 x2 x3 x4 x5 x6 hlt0 hlt1
  have B3 := Lib.hid ((B1.out.alloc _).call b3)
  clear b3
  obtain ⟨r0, r1, r2, r3, r4, r5, r6⟩ := cells7 B3.out.k0
  obtain ⟨z0, z1, z2, z3, z4, z5, z6⟩ := cells7 B3.out.k1
  obtain ⟨y0, y1, y2, y3, y4, y5, y6⟩ := frees7 B3.out.k0
  obtain ⟨x0, x1, x2, x3, x4, x5, x6⟩ := frees7 B3.out.k1
  have hlt0 := B3.out.lt0
  have hlt1 := B3.out.lt
  go_wp2
  obtain ⟨wS, hwS⟩ : ∃ wS, wS = (((((((w3).setCell ⟨w.heap.size + 1, 0, none⟩ (.slice TA L.length tc)).setCell ⟨w.heap.size + 1, 1, none⟩ (.int .i64 ((s.i : Nat) : Int))).setCell ⟨w.heap.size + 1, 2, none⟩ (.slice SA s.ss.length sc)).setCell ⟨w.heap.size + 1, 3, none⟩ (.slice EA s.es.length ec)).setCell ⟨w.heap.size + 1, 4, none⟩ (.int .i64 ((s.deep : Nat) : Int))).setCell ⟨w.heap.size + 1, 5, none⟩ (.int .i64 ((eC (failP L s 130) : Nat) : Int))).setCell ⟨w.heap.size + 1, 6, none⟩ (.int .i64 ((eP (failP L s 130) : Nat) : Int)) := ⟨_, rfl⟩
  rw [← hwS]
  have hBS := Bx.all1 (B3.out) hwS
  obtain ⟨d0, d1, d2, d3, d4, d5, d6⟩ := cells7 hBS.k1
  clear hwS
  exact bodyPost_ret (v := .tuple #[RVal TA L.length tc (failP L s 130) SA sc EA ec, .string ⟨#[]⟩]) (by simp [results, Tryz.results142, go_sem, d0, d1, d2, d3, d4, d5, d6, rval_fail]) rfl ⟨by rw [HR.out]; rfl, hBS.hb⟩
set_option maxRecDepth 100000 in
set_option maxHeartbeats 2000000 in
theorem rnumber_any (w : World) (h : RR X TA L s w SA sc EA ec) (tc : Nat) :
  Calls Tryz.prog 141 #[.agg #[.slice TA L.length tc, .int .i64 ((s.i : Nat) : Int), .slice SA s.ss.length sc, .slice EA s.es.length ec, .int .i64 ((s.deep : Nat) : Int), .int .i64 ((eC s : Nat) : Int), .int .i64 ((eP s : Nat) : Int)]] w fun e w' => e = .returned (.tuple #[RVal TA L.length tc (numberP L s).1 SA sc EA ec, .int .i64 (((numberP L s).2 : Nat) : Int)]) ∧ Below w.heap.size w w' := by
 obtain ⟨kd, tx, nm, ps, hnow⟩ : ∃ kd tx nm ps, nowP L s = ⟨kd, tx, nm, ps⟩ := ⟨_, _, _, _, rfl⟩
 have HN := Lib.hid (fun w' hb => rnow_at w' (h.next (w' := w') hb) tc hnow)
 have HFA := Lib.hid (fun w' hb => rfail_at w' (h.next (w' := w') hb) tc 130 (by decide))
 have HC := Lib.hid (h.eC_some)
 have hil := h.ii
 have hll := h.len
 by_cases herr : s.err = none
 ·have q : (((eC s : Nat) : Int) != 0) = false := by rw [eC_none herr]; rfl
  by_cases hk : kd = 2
  ·have qk : ((kd : Int) != 2) = false := by rw [bne_eq_false_iff_eq]; omega
   by_cases hb : 1048576 < nm
   ·have qb : decide ((1048576 : Int) < (nm : Int)) = true := by simp; omega
    have HR := Lib.hid (show numberP L s = (failP L s 130, 0) from by unfold numberP; rw [hnow]; simp [hb])
    clear h hnow
    go_enter Tryz.func141, Tryz.ntmps141
    go_wp2_with fail
    refine (HN.out _ (((Below.refl _ _).alloc (Nat.le_refl _) _).alloc (by simp) _)).mono ?_
    rintro e w1 ⟨rfl, b1⟩
    have B1 := Lib.hid (Bx.made_call b1)
    clear b1
    obtain ⟨r0, r1, r2, r3, r4, r5, r6⟩ := cells7 B1.out.k0
    obtain ⟨z0, z1, z2, z3, z4, z5, z6⟩ := cells7 B1.out.k1
    obtain ⟨y0, y1, y2, y3, y4, y5, y6⟩ := frees7 B1.out.k0
    obtain ⟨x0, x1, x2, x3, x4, x5, x6⟩ := frees7 B1.out.k1
    have hlt0 := B1.out.lt0
    have hlt1 := B1.out.lt
    go_wp2_with fail
    have HF := fun o => HFA.out _ (B1.out.alloc o).hb
    simp only [rval_fail] at HF
    refine (HF _).mono ?_
    clear HF
    rintro e w3 ⟨rfl, b3⟩
    clear r0 r1 r2 r3 r4 r5 r6 z0 z1 z2 z3 z4 z5 z6 y0 y1 y2 y3 y4 y5 y6 x0 x1 x2 x3 x4 x5 x6 hlt0 hlt1
    have B3 := Lib.hid ((B1.out.alloc _).call b3)
    clear b3
    obtain ⟨r0, r1, r2, r3, r4, r5, r6⟩ := cells7 B3.out.k0
    obtain ⟨z0, z1, z2, z3, z4, z5, z6⟩ := cells7 B3.out.k1
    obtain ⟨y0, y1, y2, y3, y4, y5, y6⟩ := frees7 B3.out.k0
    obtain ⟨x0, x1, x2, x3, x4, x5, x6⟩ := frees7 B3.out.k1
    have hlt0 := B3.out.lt0
    have hlt1 := B3.out.lt
    go_wp2
    obtain ⟨wS, hwS⟩ : ∃ wS, wS = (((((((w3).setCell ⟨w.heap.size + 1, 0, none⟩ (.slice TA L.length tc)).setCell ⟨w.heap.size + 1, 1, none⟩ (.int .i64 ((s.i : Nat) : Int))).setCell ⟨w.heap.size + 1, 2, none⟩ (.slice SA s.ss.length sc)).setCell ⟨w.heap.size + 1, 3, none⟩ (.slice EA s.es.length ec)).setCell ⟨w.heap.size + 1, 4, none⟩ (.int .i64 ((s.deep : Nat) : Int))).setCell ⟨w.heap.size + 1, 5, none⟩ (.int .i64 ((eC (failP L s 130) : Nat) : Int))).setCell ⟨w.heap.size + 1, 6, none⟩ (.int .i64 ((eP (failP L s 130) : Nat) : Int)) := ⟨_, rfl⟩
    rw [← hwS]
    have hBS := Bx.all1 (B3.out) hwS
    obtain ⟨d0, d1, d2, d3, d4, d5, d6⟩ := cells7 hBS.k1
    clear hwS
    exact bodyPost_ret (v := .tuple #[RVal TA L.length tc (failP L s 130) SA sc EA ec, .int .i64 0]) (by simp [results, Tryz.results141, go_sem, d0, d1, d2, d3, d4, d5, d6, rval_fail]) rfl ⟨by rw [HR.out]; rfl, hBS.hb⟩
   ·have qb : decide ((1048576 : Int) < (nm : Int)) = false := by simp; omega
    have hlt : s.i < L.length := now_lt (by rw [hnow]; show kd ≠ 0; omega)
    have hb2 : nm ≤ 1048576 := by omega
    have HR := Lib.hid (show numberP L s = (advP s, nm) from by unfold numberP; rw [hnow]; simp [herr, hk, hb])
    clear h hnow
    go_enter Tryz.func141, Tryz.ntmps141
    go_wp2_with fail
    refine (HN.out _ (((Below.refl _ _).alloc (Nat.le_refl _) _).alloc (by simp) _)).mono ?_
    rintro e w1 ⟨rfl, b1⟩
    have B1 := Lib.hid (Bx.made_call b1)
    clear b1
    obtain ⟨r0, r1, r2, r3, r4, r5, r6⟩ := cells7 B1.out.k0
    obtain ⟨z0, z1, z2, z3, z4, z5, z6⟩ := cells7 B1.out.k1
    obtain ⟨y0, y1, y2, y3, y4, y5, y6⟩ := frees7 B1.out.k0
    obtain ⟨x0, x1, x2, x3, x4, x5, x6⟩ := frees7 B1.out.k1
    have hlt0 := B1.out.lt0
    have hlt1 := B1.out.lt
    go_wp2_with fail
    go_region
    all_goals
     go_wp2
     obtain ⟨wS, hwS⟩ : ∃ wS, wS = (((((((w1.setCell ⟨w.heap.size, 1, none⟩ (.int .i64 ((s.i : Int) + 1))).setCell ⟨w.heap.size + 1, 0, none⟩ (.slice TA L.length tc)).setCell ⟨w.heap.size + 1, 1, none⟩ (.int .i64 ((s.i : Int) + 1))).setCell ⟨w.heap.size + 1, 2, none⟩ (.slice SA s.ss.length sc)).setCell ⟨w.heap.size + 1, 3, none⟩ (.slice EA s.es.length ec)).setCell ⟨w.heap.size + 1, 4, none⟩ (.int .i64 ((s.deep : Nat) : Int))).setCell ⟨w.heap.size + 1, 5, none⟩ (.int .i64 ((eC s : Nat) : Int))).setCell ⟨w.heap.size + 1, 6, none⟩ (.int .i64 ((eP s : Nat) : Int)) := ⟨_, rfl⟩
     rw [← hwS]
     have hBS := ((Bx.all1 (B1.out.set0 1 (.int .i64 ((s.i : Int) + 1))) hwS).alloc (.cells #[.int .i64 2, .string tx, .int .u64 nm, .int .i64 ps] 155)).drew
     obtain ⟨d0, d1, d2, d3, d4, d5, d6⟩ := cells7 hBS.k1
     clear hwS
     exact bodyPost_ret (v := .tuple #[RVal TA L.length tc (advP s) SA sc EA ec, .int .i64 ((nm : Nat) : Int)]) (by simp [results, Tryz.results141, go_sem, d0, d1, d2, d3, d4, d5, d6, RVal, RCell, advP, eC, eP]) rfl ⟨by rw [HR.out], hBS.hb⟩
  ·have qk : ((kd : Int) != 2) = true := by rw [bne_iff_ne]; omega
   have HR := Lib.hid (show numberP L s = (failP L s 130, 0) from by unfold numberP; rw [hnow]; simp [hk])
   clear h hnow
   go_enter Tryz.func141, Tryz.ntmps141
   go_wp2_with fail
   refine (HN.out _ (((Below.refl _ _).alloc (Nat.le_refl _) _).alloc (by simp) _)).mono ?_
   rintro e w1 ⟨rfl, b1⟩
   have B1 := Lib.hid (Bx.made_call b1)
   clear b1
   obtain ⟨r0, r1, r2, r3, r4, r5, r6⟩ := cells7 B1.out.k0
   obtain ⟨z0, z1, z2, z3, z4, z5, z6⟩ := cells7 B1.out.k1
   obtain ⟨y0, y1, y2, y3, y4, y5, y6⟩ := frees7 B1.out.k0
   obtain ⟨x0, x1, x2, x3, x4, x5, x6⟩ := frees7 B1.out.k1
   have hlt0 := B1.out.lt0
   have hlt1 := B1.out.lt
   go_wp2_with fail
   have HF := fun o => HFA.out _ (B1.out.alloc o).hb
   simp only [rval_fail] at HF
   refine (HF _).mono ?_
   clear HF
   rintro e w3 ⟨rfl, b3⟩
   clear r0 r1 r2 r3 r4 r5 r6 z0 z1 z2 z3 z4 z5 z6 y0 y1 y2 y3 y4 y5 y6 x0 x1 x2 x3 x4 x5 x6 hlt0 hlt1
   have B3 := Lib.hid ((B1.out.alloc _).call b3)
   clear b3
   obtain ⟨r0, r1, r2, r3, r4, r5, r6⟩ := cells7 B3.out.k0
   obtain ⟨z0, z1, z2, z3, z4, z5, z6⟩ := cells7 B3.out.k1
   obtain ⟨y0, y1, y2, y3, y4, y5, y6⟩ := frees7 B3.out.k0
   obtain ⟨x0, x1, x2, x3, x4, x5, x6⟩ := frees7 B3.out.k1
   have hlt0 := B3.out.lt0
   have hlt1 := B3.out.lt
   go_wp2
   obtain ⟨wS, hwS⟩ : ∃ wS, wS = (((((((w3).setCell ⟨w.heap.size + 1, 0, none⟩ (.slice TA L.length tc)).setCell ⟨w.heap.size + 1, 1, none⟩ (.int .i64 ((s.i : Nat) : Int))).setCell ⟨w.heap.size + 1, 2, none⟩ (.slice SA s.ss.length sc)).setCell ⟨w.heap.size + 1, 3, none⟩ (.slice EA s.es.length ec)).setCell ⟨w.heap.size + 1, 4, none⟩ (.int .i64 ((s.deep : Nat) : Int))).setCell ⟨w.heap.size + 1, 5, none⟩ (.int .i64 ((eC (failP L s 130) : Nat) : Int))).setCell ⟨w.heap.size + 1, 6, none⟩ (.int .i64 ((eP (failP L s 130) : Nat) : Int)) := ⟨_, rfl⟩
   rw [← hwS]
   have hBS := Bx.all1 (B3.out) hwS
   obtain ⟨d0, d1, d2, d3, d4, d5, d6⟩ := cells7 hBS.k1
   clear hwS
   exact bodyPost_ret (v := .tuple #[RVal TA L.length tc (failP L s 130) SA sc EA ec, .int .i64 0]) (by simp [results, Tryz.results141, go_sem, d0, d1, d2, d3, d4, d5, d6, rval_fail]) rfl ⟨by rw [HR.out]; rfl, hBS.hb⟩
 ·have q : (((eC s : Nat) : Int) != 0) = true := by rw [bne_iff_ne]; have := HC.out herr; omega
  have HR := Lib.hid (show numberP L s = (failP L s 130, 0) from by unfold numberP; rw [hnow]; simp [herr, Option.isSome_iff_ne_none])
  clear h hnow
  go_enter Tryz.func141, Tryz.ntmps141
  go_wp2_with fail
  refine (HN.out _ (((Below.refl _ _).alloc (Nat.le_refl _) _).alloc (by simp) _)).mono ?_
  rintro e w1 ⟨rfl, b1⟩
  have B1 := Lib.hid (Bx.made_call b1)
  clear b1
  obtain ⟨r0, r1, r2, r3, r4, r5, r6⟩ := cells7 B1.out.k0
  obtain ⟨z0, z1, z2, z3, z4, z5, z6⟩ := cells7 B1.out.k1
  obtain ⟨y0, y1, y2, y3, y4, y5, y6⟩ := frees7 B1.out.k0
  obtain ⟨x0, x1, x2, x3, x4, x5, x6⟩ := frees7 B1.out.k1
  have hlt0 := B1.out.lt0
  have hlt1 := B1.out.lt
  go_wp2_with fail
  have HF := fun o => HFA.out _ (B1.out.alloc o).hb
  simp only [rval_fail] at HF
  refine (HF _).mono ?_
  clear HF
  rintro e w3 ⟨rfl, b3⟩
  clear r0 r1 r2 r3 r4 r5 r6 z0 z1 z2 z3 z4 z5 z6 y0 y1 y2 y3 y4 y5 y6 x0 x1 x2 x3 x4 x5 x6 hlt0 hlt1
  have B3 := Lib.hid ((B1.out.alloc _).call b3)
  clear b3
  obtain ⟨r0, r1, r2, r3, r4, r5, r6⟩ := cells7 B3.out.k0
  obtain ⟨z0, z1, z2, z3, z4, z5, z6⟩ := cells7 B3.out.k1
  obtain ⟨y0, y1, y2, y3, y4, y5, y6⟩ := frees7 B3.out.k0
  obtain ⟨x0, x1, x2, x3, x4, x5, x6⟩ := frees7 B3.out.k1
  have hlt0 := B3.out.lt0
  have hlt1 := B3.out.lt
  go_wp2
  obtain ⟨wS, hwS⟩ : ∃ wS, wS = (((((((w3).setCell ⟨w.heap.size + 1, 0, none⟩ (.slice TA L.length tc)).setCell ⟨w.heap.size + 1, 1, none⟩ (.int .i64 ((s.i : Nat) : Int))).setCell ⟨w.heap.size + 1, 2, none⟩ (.slice SA s.ss.length sc)).setCell ⟨w.heap.size + 1, 3, none⟩ (.slice EA s.es.length ec)).setCell ⟨w.heap.size + 1, 4, none⟩ (.int .i64 ((s.deep : Nat) : Int))).setCell ⟨w.heap.size + 1, 5, none⟩ (.int .i64 ((eC (failP L s 130) : Nat) : Int))).setCell ⟨w.heap.size + 1, 6, none⟩ (.int .i64 ((eP (failP L s 130) : Nat) : Int)) := ⟨_, rfl⟩
  rw [← hwS]
  have hBS := Bx.all1 (B3.out) hwS
  obtain ⟨d0, d1, d2, d3, d4, d5, d6⟩ := cells7 hBS.k1
  clear hwS
  exact bodyPost_ret (v := .tuple #[RVal TA L.length tc (failP L s 130) SA sc EA ec, .int .i64 0]) (by simp [results, Tryz.results141, go_sem, d0, d1, d2, d3, d4, d5, d6, rval_fail]) rfl ⟨by rw [HR.out]; rfl, hBS.hb⟩
end
end Go.Proofs.YtghlnncfigkkaaaGreatDoor
