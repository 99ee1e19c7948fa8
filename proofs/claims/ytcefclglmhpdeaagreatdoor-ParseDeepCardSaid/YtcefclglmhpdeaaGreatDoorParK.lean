/-
  The walk of the parser's stmt.
-/
import Derived.Test.YtcefclglmhpdeaaGreatDoorParJ
namespace Go.Proofs.YtcefclglmhpdeaaGreatDoor
set_option linter.unusedVariables false
set_option linter.unusedSimpArgs false
open Go.RowKit
attribute [local go_sem ↓] tok_field3 tok_field0
section
variable {base P tc : Nat} {TA : Option Addr} {L : List Tok} {s : PS} {w0 w w' : World} {g k p e q : Nat} {nm : ByteArray} {v : Value}
theorem sm_set0 (h : SM base P TA tc L w0 g s k p nm v e q w) (h0 : ∃ s0, PM base P TA tc L s0 w0) (hg : w0.heap.size ≤ g) (k' : Nat) : SM base P TA tc L w0 g s k' p nm v e q (w.setCell ⟨g, 0, none⟩ (.int .i64 k')) := by
  obtain ⟨a, b, c⟩ := h.set h0 hg 0 (.int .i64 k')
  exact ⟨a, b, c, h.2.2.2⟩
theorem sm_set1 (h : SM base P TA tc L w0 g s k p nm v e q w) (h0 : ∃ s0, PM base P TA tc L s0 w0) (hg : w0.heap.size ≤ g) (k' : Nat) : SM base P TA tc L w0 g s k k' nm v e q (w.setCell ⟨g, 1, none⟩ (.int .i64 k')) := by
  obtain ⟨a, b, c⟩ := h.set h0 hg 1 (.int .i64 k')
  exact ⟨a, b, c, h.2.2.2⟩
theorem sm_set2 (h : SM base P TA tc L w0 g s k p nm v e q w) (h0 : ∃ s0, PM base P TA tc L s0 w0) (hg : w0.heap.size ≤ g) (nm' : ByteArray) : SM base P TA tc L w0 g s k p nm' v e q (w.setCell ⟨g, 2, none⟩ (.string nm')) := by
  obtain ⟨a, b, c⟩ := h.set h0 hg 2 (.string nm')
  exact ⟨a, b, c, h.2.2.2⟩
theorem sm_set3 (h : SM base P TA tc L w0 g s k p nm v e q w) (h0 : ∃ s0, PM base P TA tc L s0 w0) (hg : w0.heap.size ≤ g) (A : Option Addr) (n c : Nat) : SM base P TA tc L w0 g s k p nm (.slice A n c) e q (w.setCell ⟨g, 3, none⟩ (.slice A n c)) := by
  obtain ⟨a, b, c'⟩ := h.set h0 hg 3 (.slice A n c)
  exact ⟨a, b, c', ⟨A, c, n, rfl⟩⟩
theorem sm_set4 (h : SM base P TA tc L w0 g s k p nm v e q w) (h0 : ∃ s0, PM base P TA tc L s0 w0) (hg : w0.heap.size ≤ g) (k' : Nat) : SM base P TA tc L w0 g s k p nm v k' q (w.setCell ⟨g, 4, none⟩ (.int .i64 k')) := by
  obtain ⟨a, b, c⟩ := h.set h0 hg 4 (.int .i64 k')
  exact ⟨a, b, c, h.2.2.2⟩
theorem shape_ss (f : Nat) : ∀ (f' : Nat) (s : PS) (l : List Nat), G L s (shapeLoopP L f' s l).1 0 := by
  intro f'
  induction f' with
  | zero => intro s l; exact G.refl s
  | succ f' ih =>
    intro s l
    rw [shapeLoopP]
    split
    · rename_i h
      exact (((G.adv (isP_lt h)).trans (G.number _)).trans (ih _ _)).less (by omega)
    · exact G.want _ _
theorem shape_G (f : Nat) (s : PS) : G L s (shapeP L f s).1 0 := by
  unfold shapeP
  dsimp only
  split
  · rename_i h
    exact ((G.want _ _).trans (G.adv (isP_lt h))).less (by omega)
  · exact (((G.want _ _).trans (G.number _)).trans (shape_ss f f _ _)).less (by omega)
theorem body_G (f : Nat) (s : PS) : G L s (bodyP L f s).1 0 := by
  unfold bodyP
  split
  · exact G.fail s _
  · split
    · rename_i h
      exact ((((G.adv (isP_lt h)).trans (G.number _)).trans (G.name _)).trans (shape_G f _)).less (by omega)
    · split
      · rename_i h
        exact ((((G.adv (isP_lt h)).trans (G.name _)).trans (G.want _ _)).trans ((allG L f).expr _)).less (by omega)
      · split
        · rename_i h
          exact ((G.adv (isP_lt h)).trans (G.name _)).less (by omega)
        · exact G.fail s _
theorem pm_c2 (h : PM base P TA tc L s w) : ∃ SA sc, w.cell? ⟨P, 2, none⟩ = some (.slice SA s.ss.length sc) ∧ ∀ o : Obj, (w.alloc o).cell? ⟨P, 2, none⟩ = some (.slice SA s.ss.length sc) := by
  obtain ⟨SA, sc, EA, ec, ev, h⟩ := h
  exact ⟨SA, sc, h.c2, fun o => (World.cell?_alloc_lt w o ⟨P, 2, none⟩ h.lt).trans h.c2⟩
theorem prow_c2 {w : World} {n i sn deep : Nat} {ev : Value} {TA SA EA : Option Addr} {ln tc sc ec en : Nat} (hn : n = sn) (h : w.heap[P]? = some (.cells (PRow TA ln tc i (.slice SA sn sc) (.slice EA en ec) deep ev) 77 (0, 0))) : w.cell? ⟨P, 2, none⟩ = some (.slice SA n sc) := by
  subst hn
  exact cell_of_row _ _ 2 _ _ _ h
set_option maxRecDepth 100000 in
set_option maxHeartbeats 2000000 in
theorem stmt_full (f : Nat) (w : World) (s : PS) (h : PM base P TA tc L s w) (h64 : s.ss.length ≤ 64) (hf : 12 * L.length + 20 ≤ f) (hl : s.ss.length = 64) :
    Calls Tryz.prog 33 #[PP P] w fun e w' => (∃ v, e = .returned v) ∧ PM base P TA tc L (stmtP L f s) w' ∧ Below base w w' := by
  have hbl := h.base_le
  obtain ⟨kd, tx, nm, ps, hnow⟩ : ∃ kd tx nm ps, nowP L s = ⟨kd, tx, nm, ps⟩ := ⟨_, _, _, _, rfl⟩
  have HNOW := Lib.hid hnow
  have H := Lib.hid h
  have HG := Lib.hid (body_G (L := L) f s)
  clear h hnow
  have q6 : ((s.ss.length : Int) == 64) = true := by rw [beq_iff_eq]; omega
  have HBODY := Lib.hid (show bodyP L f s = (failP L s 5, ⟨0, 0, noB, [], 0, ps⟩) from by unfold bodyP; rw [if_pos hl, HNOW.out])
  have HARG : Hid (∃ A c, (Value.slice none 0 0) = .slice A ([] : List Nat).length c) := ⟨none, 0, rfl⟩
  clear hl
  go_enter Tryz.func33, Tryz.ntmps33
  go_wp2_with fail
  refine (now_pm w H.out HNOW.out).mono ?_
  rintro e w1 ⟨rfl, h1, k1, b1⟩
  obtain ⟨SA, sc, c2, d2⟩ := pm_c2 h1
  clear c2
  have H1 := Lib.hid (show ∃ s0, PM base P TA tc L s0 w1 from ⟨s, h1⟩)
  have K1 := Lib.hid k1
  have HP1 := Lib.hid h1
  clear h1 k1 b1
  go_wp2_with fail
  obtain ⟨wa, hwa⟩ : ∃ wa, wa = w1.alloc (.cells #[.int .i64 0, .int .i64 0, .string ⟨#[]⟩, .slice none 0 0, .int .i64 0, .int .i64 ps] 38) := ⟨_, rfl⟩
  rw [← hwa]
  have SA0 := Lib.hid (show SM base P TA tc L w1 w1.heap.size s 0 0 ⟨#[]⟩ (.slice none 0 0) 0 ps wa from by rw [hwa]; exact ⟨HP1.out.below (one_new w1 _), KT.below (one_new w1 _), heap_alloc_new _ _, ⟨none, 0, 0, rfl⟩⟩)
  clear hwa d2
  refine (fail_pm _ SA0.out.1 5).mono ?_
  rintro e v1 ⟨⟨v, rfl⟩, h9, k9⟩
  have S1 := Lib.hid (SA0.out.call h9 k9)
  clear h9 k9
  obtain ⟨sw, hsw⟩ : ∃ sw, wantP L (failP L s 5) tSemi = sw := ⟨_, rfl⟩
  have HW := want_pm _ S1.out.1 tSemi
  rw [hsw] at HW
  have HW := Lib.hid HW
  have hst : stmtP L f s = putS sw ⟨0, 0, noB, [], 0, ps⟩ := by unfold stmtP; rw [HBODY.out]; dsimp only; rw [hsw]
  have HST := Lib.hid hst
  have hss : sw.ss = s.ss := by
    have a := (G.want (L := L) (failP L s 5) tSemi).hs
    rw [hsw] at a
    have b := HG.out.hs
    rw [HBODY.out] at b
    exact a.trans b
  have h64' : sw.ss.length ≤ 64 := by rw [hss]; exact h64
  clear hst hsw hss
  go_wp2_with fail
  refine (HW.out).mono ?_
  rintro e v2 ⟨⟨v, rfl⟩, h9, k9⟩
  have S2 := Lib.hid (S1.out.call h9 k9)
  clear h9 k9
  obtain ⟨SR, sr, ER, er, ev, hpr⟩ := S2.out.1
  have HPR := Lib.hid hpr
  have c2 := hpr.c2
  obtain ⟨nn, hnn⟩ : ∃ nn, nn = sw.ss.length := ⟨_, rfl⟩
  rw [← hnn] at c2
  have HNN := Lib.hid hnn
  have hn64 : nn + 1 ≤ 1000000 := by omega
  have r0 := S2.out.c0
  have r1 := S2.out.c1
  have r2 := S2.out.c2
  have r3 := S2.out.c3
  have r4 := S2.out.c4
  have r5 := S2.out.c5
  have c2o : ∀ o : Obj, (v2.alloc o).cell? ⟨P, 2, none⟩ = some (.slice SR nn sr) := fun o => (World.cell?_alloc_lt v2 o ⟨P, 2, none⟩ HPR.out.lt).trans c2
  clear hpr hnn
  go_wp2_with fail
  have HGO := Lib.hid (fun o : Obj => HPR.out.below (w' := (v2.alloc o).drew) ((Below.refl _ _).alloc (Nat.le_refl _) o).drew)
  go_region_law (refine appS_step rfl (.tmp 58) (.tmp 60) rfl base SR sr sw.ss nn HNN.out.symm rfl (HGO.out _).ownS v2.heap.size rfl (⟨0, 0, noB, [], 0, ps⟩, (Value.slice none 0 0)) (heap_alloc_new _ _) HARG.out hn64 (by have := HPR.out.base_le; simp; omega) ?_; intro A' cap' w5 ho hg; have hPB := pr_ne (HGO.out _) hg P _ _ _ (HGO.out _).blk (by decide); have q3 := prow_c2 HNN.out hPB; have z3 := pfree_row hPB 2; have HX := Lib.hid (pr_putS (HGO.out _) ho hg h64'); clear hPB ho hg)
  all_goals
    go_wp2
    go_end0
    have hn := HNN.out
    subst hn
    obtain ⟨x1, x2⟩ := HX.out
    exact ⟨⟨_, rfl⟩, by rw [HST.out]; exact x1.pm, (((K1.out.trans S2.out.2.1).toBelow hbl).trans (Below.mono (((Below.refl _ _).alloc (Nat.le_refl _) _).drew) HPR.out.base_le)).trans x2⟩
set_option maxRecDepth 100000 in
set_option maxHeartbeats 2000000 in
theorem stmt_none (f : Nat) (w : World) (s : PS) (h : PM base P TA tc L s w) (h64 : s.ss.length ≤ 64) (hf : 12 * L.length + 20 ≤ f) (hl : s.ss.length ≠ 64) (hq1 : isP L s tInput = false) (hq2 : isP L s tLet = false) (hq3 : isP L s tOutput = false) :
    Calls Tryz.prog 33 #[PP P] w fun e w' => (∃ v, e = .returned v) ∧ PM base P TA tc L (stmtP L f s) w' ∧ Below base w w' := by
  have hbl := h.base_le
  obtain ⟨kd, tx, nm, ps, hnow⟩ : ∃ kd tx nm ps, nowP L s = ⟨kd, tx, nm, ps⟩ := ⟨_, _, _, _, rfl⟩
  have HNOW := Lib.hid hnow
  have H := Lib.hid h
  have HG := Lib.hid (body_G (L := L) f s)
  clear h hnow
  have q6 : ((s.ss.length : Int) == 64) = false := by rw [beq_eq_false_iff_ne]; omega
  have HBODY := Lib.hid (show bodyP L f s = (failP L s 130, ⟨0, 0, noB, [], 0, ps⟩) from by unfold bodyP; rw [if_neg hl, hq1, hq2, hq3, HNOW.out]; rfl)
  have HARG : Hid (∃ A c, (Value.slice none 0 0) = .slice A ([] : List Nat).length c) := ⟨none, 0, rfl⟩
  have Q1 := Lib.hid hq1
  have Q2 := Lib.hid hq2
  have Q3 := Lib.hid hq3
  clear hl hq1 hq2 hq3
  go_enter Tryz.func33, Tryz.ntmps33
  go_wp2_with fail
  refine (now_pm w H.out HNOW.out).mono ?_
  rintro e w1 ⟨rfl, h1, k1, b1⟩
  obtain ⟨SA, sc, c2, d2⟩ := pm_c2 h1
  clear c2
  have H1 := Lib.hid (show ∃ s0, PM base P TA tc L s0 w1 from ⟨s, h1⟩)
  have K1 := Lib.hid k1
  have HP1 := Lib.hid h1
  clear h1 k1 b1
  go_wp2_with fail
  obtain ⟨wa, hwa⟩ : ∃ wa, wa = w1.alloc (.cells #[.int .i64 0, .int .i64 0, .string ⟨#[]⟩, .slice none 0 0, .int .i64 0, .int .i64 ps] 38) := ⟨_, rfl⟩
  rw [← hwa]
  have SA0 := Lib.hid (show SM base P TA tc L w1 w1.heap.size s 0 0 ⟨#[]⟩ (.slice none 0 0) 0 ps wa from by rw [hwa]; exact ⟨HP1.out.below (one_new w1 _), KT.below (one_new w1 _), heap_alloc_new _ _, ⟨none, 0, 0, rfl⟩⟩)
  clear hwa d2
  refine (take_no _ SA0.out.1 tInput Q1.out).mono ?_
  rintro e v3 ⟨rfl, h9, k9⟩
  have S3 := Lib.hid (SA0.out.call h9 k9)
  clear h9 k9
  go_wp2_with fail
  refine (take_no _ S3.out.1 tLet Q2.out).mono ?_
  rintro e v4 ⟨rfl, h9, k9⟩
  have S4 := Lib.hid (S3.out.call h9 k9)
  clear h9 k9
  go_wp2_with fail
  refine (take_no _ S4.out.1 tOutput Q3.out).mono ?_
  rintro e v5 ⟨rfl, h9, k9⟩
  have S5 := Lib.hid (S4.out.call h9 k9)
  clear h9 k9
  go_wp2_with fail
  refine (fail_pm _ S5.out.1 130).mono ?_
  rintro e v6 ⟨⟨v, rfl⟩, h9, k9⟩
  have S6 := Lib.hid (S5.out.call h9 k9)
  clear h9 k9
  obtain ⟨sw, hsw⟩ : ∃ sw, wantP L (failP L s 130) tSemi = sw := ⟨_, rfl⟩
  have HW := want_pm _ S6.out.1 tSemi
  rw [hsw] at HW
  have HW := Lib.hid HW
  have hst : stmtP L f s = putS sw ⟨0, 0, noB, [], 0, ps⟩ := by unfold stmtP; rw [HBODY.out]; dsimp only; rw [hsw]
  have HST := Lib.hid hst
  have hss : sw.ss = s.ss := by
    have a := (G.want (L := L) (failP L s 130) tSemi).hs
    rw [hsw] at a
    have b := HG.out.hs
    rw [HBODY.out] at b
    exact a.trans b
  have h64' : sw.ss.length ≤ 64 := by rw [hss]; exact h64
  clear hst hsw hss
  go_wp2_with fail
  refine (HW.out).mono ?_
  rintro e v7 ⟨⟨v, rfl⟩, h9, k9⟩
  have S7 := Lib.hid (S6.out.call h9 k9)
  clear h9 k9
  obtain ⟨SR, sr, ER, er, ev, hpr⟩ := S7.out.1
  have HPR := Lib.hid hpr
  have c2 := hpr.c2
  obtain ⟨nn, hnn⟩ : ∃ nn, nn = sw.ss.length := ⟨_, rfl⟩
  rw [← hnn] at c2
  have HNN := Lib.hid hnn
  have hn64 : nn + 1 ≤ 1000000 := by omega
  have r0 := S7.out.c0
  have r1 := S7.out.c1
  have r2 := S7.out.c2
  have r3 := S7.out.c3
  have r4 := S7.out.c4
  have r5 := S7.out.c5
  have c2o : ∀ o : Obj, (v7.alloc o).cell? ⟨P, 2, none⟩ = some (.slice SR nn sr) := fun o => (World.cell?_alloc_lt v7 o ⟨P, 2, none⟩ HPR.out.lt).trans c2
  clear hpr hnn
  go_wp2_with fail
  have HGO := Lib.hid (fun o : Obj => HPR.out.below (w' := (v7.alloc o).drew) ((Below.refl _ _).alloc (Nat.le_refl _) o).drew)
  go_region_law (refine appS_step rfl (.tmp 58) (.tmp 60) rfl base SR sr sw.ss nn HNN.out.symm rfl (HGO.out _).ownS v7.heap.size rfl (⟨0, 0, noB, [], 0, ps⟩, (Value.slice none 0 0)) (heap_alloc_new _ _) HARG.out hn64 (by have := HPR.out.base_le; simp; omega) ?_; intro A' cap' w5 ho hg; have hPB := pr_ne (HGO.out _) hg P _ _ _ (HGO.out _).blk (by decide); have q3 := prow_c2 HNN.out hPB; have z3 := pfree_row hPB 2; have HX := Lib.hid (pr_putS (HGO.out _) ho hg h64'); clear hPB ho hg)
  all_goals
    go_wp2
    go_end0
    have hn := HNN.out
    subst hn
    obtain ⟨x1, x2⟩ := HX.out
    exact ⟨⟨_, rfl⟩, by rw [HST.out]; exact x1.pm, (((K1.out.trans S7.out.2.1).toBelow hbl).trans (Below.mono (((Below.refl _ _).alloc (Nat.le_refl _) _).drew) HPR.out.base_le)).trans x2⟩
set_option maxRecDepth 100000 in
set_option maxHeartbeats 2000000 in
theorem stmt_output (f : Nat) (w : World) (s : PS) (h : PM base P TA tc L s w) (h64 : s.ss.length ≤ 64) (hf : 12 * L.length + 20 ≤ f) (hl : s.ss.length ≠ 64) (hq1 : isP L s tInput = false) (hq2 : isP L s tLet = false) (hq3 : isP L s tOutput = true) :
    Calls Tryz.prog 33 #[PP P] w fun e w' => (∃ v, e = .returned v) ∧ PM base P TA tc L (stmtP L f s) w' ∧ Below base w w' := by
  have hbl := h.base_le
  obtain ⟨kd, tx, nm, ps, hnow⟩ : ∃ kd tx nm ps, nowP L s = ⟨kd, tx, nm, ps⟩ := ⟨_, _, _, _, rfl⟩
  have HNOW := Lib.hid hnow
  have H := Lib.hid h
  have HG := Lib.hid (body_G (L := L) f s)
  clear h hnow
  have q6 : ((s.ss.length : Int) == 64) = false := by rw [beq_eq_false_iff_ne]; omega
  obtain ⟨sm, vm, hm⟩ : ∃ sm vm, nameP L (advP s) = (sm, vm) := ⟨_, _, rfl⟩
  have HBODY := Lib.hid (show bodyP L f s = (sm, ⟨3, 0, vm, [], 0, ps⟩) from by unfold bodyP; rw [if_neg hl, hq1, hq2, hq3, HNOW.out]; dsimp only; rw [hm]; rfl)
  have HARG : Hid (∃ A c, (Value.slice none 0 0) = .slice A ([] : List Nat).length c) := ⟨none, 0, rfl⟩
  have Q1 := Lib.hid hq1
  have Q2 := Lib.hid hq2
  have Q3 := Lib.hid hq3
  have HM := Lib.hid hm
  clear hl hq1 hq2 hq3 hm
  go_enter Tryz.func33, Tryz.ntmps33
  go_wp2_with fail
  refine (now_pm w H.out HNOW.out).mono ?_
  rintro e w1 ⟨rfl, h1, k1, b1⟩
  obtain ⟨SA, sc, c2, d2⟩ := pm_c2 h1
  clear c2
  have H1 := Lib.hid (show ∃ s0, PM base P TA tc L s0 w1 from ⟨s, h1⟩)
  have K1 := Lib.hid k1
  have HP1 := Lib.hid h1
  clear h1 k1 b1
  go_wp2_with fail
  obtain ⟨wa, hwa⟩ : ∃ wa, wa = w1.alloc (.cells #[.int .i64 0, .int .i64 0, .string ⟨#[]⟩, .slice none 0 0, .int .i64 0, .int .i64 ps] 38) := ⟨_, rfl⟩
  rw [← hwa]
  have SA0 := Lib.hid (show SM base P TA tc L w1 w1.heap.size s 0 0 ⟨#[]⟩ (.slice none 0 0) 0 ps wa from by rw [hwa]; exact ⟨HP1.out.below (one_new w1 _), KT.below (one_new w1 _), heap_alloc_new _ _, ⟨none, 0, 0, rfl⟩⟩)
  clear hwa d2
  refine (take_no _ SA0.out.1 tInput Q1.out).mono ?_
  rintro e v8 ⟨rfl, h9, k9⟩
  have S8 := Lib.hid (SA0.out.call h9 k9)
  clear h9 k9
  go_wp2_with fail
  refine (take_no _ S8.out.1 tLet Q2.out).mono ?_
  rintro e v9 ⟨rfl, h9, k9⟩
  have S9 := Lib.hid (S8.out.call h9 k9)
  clear h9 k9
  go_wp2_with fail
  refine (take_yes _ S9.out.1 tOutput Q3.out).mono ?_
  rintro e v10 ⟨rfl, h9, k9⟩
  have S10 := Lib.hid (S9.out.call h9 k9)
  clear h9 k9
  have c11 := S10.out.c0
  have y11 := S10.out.free 0
  have S11 := Lib.hid (sm_set0 S10.out H1.out (Nat.le_refl _) 3)
  have HNM := name_pm _ S11.out.1
  rw [HM.out] at HNM
  have HNM := Lib.hid HNM
  go_wp2_with fail
  refine (HNM.out).mono ?_
  rintro e v12 ⟨rfl, h9, k9⟩
  have S12 := Lib.hid (S11.out.call h9 k9)
  clear h9 k9
  have c13 := S12.out.c2
  have y13 := S12.out.free 2
  have S13 := Lib.hid (sm_set2 S12.out H1.out (Nat.le_refl _) vm)
  obtain ⟨sw, hsw⟩ : ∃ sw, wantP L sm tSemi = sw := ⟨_, rfl⟩
  have HW := want_pm _ S13.out.1 tSemi
  rw [hsw] at HW
  have HW := Lib.hid HW
  have hst : stmtP L f s = putS sw ⟨3, 0, vm, [], 0, ps⟩ := by unfold stmtP; rw [HBODY.out]; dsimp only; rw [hsw]
  have HST := Lib.hid hst
  have hss : sw.ss = s.ss := by
    have a := (G.want (L := L) sm tSemi).hs
    rw [hsw] at a
    have b := HG.out.hs
    rw [HBODY.out] at b
    exact a.trans b
  have h64' : sw.ss.length ≤ 64 := by rw [hss]; exact h64
  clear hst hsw hss
  go_wp2_with fail
  refine (HW.out).mono ?_
  rintro e v14 ⟨⟨v, rfl⟩, h9, k9⟩
  have S14 := Lib.hid (S13.out.call h9 k9)
  clear h9 k9
  obtain ⟨SR, sr, ER, er, ev, hpr⟩ := S14.out.1
  have HPR := Lib.hid hpr
  have c2 := hpr.c2
  obtain ⟨nn, hnn⟩ : ∃ nn, nn = sw.ss.length := ⟨_, rfl⟩
  rw [← hnn] at c2
  have HNN := Lib.hid hnn
  have hn64 : nn + 1 ≤ 1000000 := by omega
  have r0 := S14.out.c0
  have r1 := S14.out.c1
  have r2 := S14.out.c2
  have r3 := S14.out.c3
  have r4 := S14.out.c4
  have r5 := S14.out.c5
  have c2o : ∀ o : Obj, (v14.alloc o).cell? ⟨P, 2, none⟩ = some (.slice SR nn sr) := fun o => (World.cell?_alloc_lt v14 o ⟨P, 2, none⟩ HPR.out.lt).trans c2
  clear hpr hnn
  go_wp2_with fail
  have HGO := Lib.hid (fun o : Obj => HPR.out.below (w' := (v14.alloc o).drew) ((Below.refl _ _).alloc (Nat.le_refl _) o).drew)
  go_region_law (refine appS_step rfl (.tmp 58) (.tmp 60) rfl base SR sr sw.ss nn HNN.out.symm rfl (HGO.out _).ownS v14.heap.size rfl (⟨3, 0, vm, [], 0, ps⟩, (Value.slice none 0 0)) (heap_alloc_new _ _) HARG.out hn64 (by have := HPR.out.base_le; simp; omega) ?_; intro A' cap' w5 ho hg; have hPB := pr_ne (HGO.out _) hg P _ _ _ (HGO.out _).blk (by decide); have q3 := prow_c2 HNN.out hPB; have z3 := pfree_row hPB 2; have HX := Lib.hid (pr_putS (HGO.out _) ho hg h64'); clear hPB ho hg)
  all_goals
    go_wp2
    go_end0
    have hn := HNN.out
    subst hn
    obtain ⟨x1, x2⟩ := HX.out
    exact ⟨⟨_, rfl⟩, by rw [HST.out]; exact x1.pm, (((K1.out.trans S14.out.2.1).toBelow hbl).trans (Below.mono (((Below.refl _ _).alloc (Nat.le_refl _) _).drew) HPR.out.base_le)).trans x2⟩
set_option maxRecDepth 100000 in
set_option maxHeartbeats 2000000 in
theorem stmt_let (f : Nat) (w : World) (s : PS) (h : PM base P TA tc L s w) (h64 : s.ss.length ≤ 64) (hf : 12 * L.length + 20 ≤ f) (hl : s.ss.length ≠ 64) (hq1 : isP L s tInput = false) (hq2 : isP L s tLet = true) :
    Calls Tryz.prog 33 #[PP P] w fun e w' => (∃ v, e = .returned v) ∧ PM base P TA tc L (stmtP L f s) w' ∧ Below base w w' := by
  have hbl := h.base_le
  obtain ⟨kd, tx, nm, ps, hnow⟩ : ∃ kd tx nm ps, nowP L s = ⟨kd, tx, nm, ps⟩ := ⟨_, _, _, _, rfl⟩
  have HNOW := Lib.hid hnow
  have H := Lib.hid h
  have HG := Lib.hid (body_G (L := L) f s)
  clear h hnow
  have q6 : ((s.ss.length : Int) == 64) = false := by rw [beq_eq_false_iff_ne]; omega
  obtain ⟨sm, vm, hm⟩ : ∃ sm vm, nameP L (advP s) = (sm, vm) := ⟨_, _, rfl⟩
  obtain ⟨so, ho⟩ : ∃ so, wantP L sm tEq = so := ⟨_, rfl⟩
  obtain ⟨se, ve, he⟩ : ∃ se ve, exprP L f so = (se, ve) := ⟨_, _, rfl⟩
  have HBODY := Lib.hid (show bodyP L f s = (se, ⟨2, 0, vm, [], ve, ps⟩) from by unfold bodyP; rw [if_neg hl, hq1, hq2, HNOW.out]; dsimp only; rw [hm]; dsimp only; rw [ho, he]; rfl)
  have HARG : Hid (∃ A c, (Value.slice none 0 0) = .slice A ([] : List Nat).length c) := ⟨none, 0, rfl⟩
  have Q1 := Lib.hid hq1
  have Q2 := Lib.hid hq2
  have HM := Lib.hid hm
  have HOO := Lib.hid ho
  have HEE := Lib.hid he
  clear hl hq1 hq2 hm ho he
  go_enter Tryz.func33, Tryz.ntmps33
  go_wp2_with fail
  refine (now_pm w H.out HNOW.out).mono ?_
  rintro e w1 ⟨rfl, h1, k1, b1⟩
  obtain ⟨SA, sc, c2, d2⟩ := pm_c2 h1
  clear c2
  have H1 := Lib.hid (show ∃ s0, PM base P TA tc L s0 w1 from ⟨s, h1⟩)
  have K1 := Lib.hid k1
  have HP1 := Lib.hid h1
  clear h1 k1 b1
  go_wp2_with fail
  obtain ⟨wa, hwa⟩ : ∃ wa, wa = w1.alloc (.cells #[.int .i64 0, .int .i64 0, .string ⟨#[]⟩, .slice none 0 0, .int .i64 0, .int .i64 ps] 38) := ⟨_, rfl⟩
  rw [← hwa]
  have SA0 := Lib.hid (show SM base P TA tc L w1 w1.heap.size s 0 0 ⟨#[]⟩ (.slice none 0 0) 0 ps wa from by rw [hwa]; exact ⟨HP1.out.below (one_new w1 _), KT.below (one_new w1 _), heap_alloc_new _ _, ⟨none, 0, 0, rfl⟩⟩)
  clear hwa d2
  refine (take_no _ SA0.out.1 tInput Q1.out).mono ?_
  rintro e v15 ⟨rfl, h9, k9⟩
  have S15 := Lib.hid (SA0.out.call h9 k9)
  clear h9 k9
  go_wp2_with fail
  refine (take_yes _ S15.out.1 tLet Q2.out).mono ?_
  rintro e v16 ⟨rfl, h9, k9⟩
  have S16 := Lib.hid (S15.out.call h9 k9)
  clear h9 k9
  have c17 := S16.out.c0
  have y17 := S16.out.free 0
  have S17 := Lib.hid (sm_set0 S16.out H1.out (Nat.le_refl _) 2)
  have HNM := name_pm _ S17.out.1
  rw [HM.out] at HNM
  have HNM := Lib.hid HNM
  go_wp2_with fail
  refine (HNM.out).mono ?_
  rintro e v18 ⟨rfl, h9, k9⟩
  have S18 := Lib.hid (S17.out.call h9 k9)
  clear h9 k9
  have c19 := S18.out.c2
  have y19 := S18.out.free 2
  have S19 := Lib.hid (sm_set2 S18.out H1.out (Nat.le_refl _) vm)
  have HWE := want_pm _ S19.out.1 tEq
  rw [HOO.out] at HWE
  have HWE := Lib.hid HWE
  go_wp2_with fail
  refine (HWE.out).mono ?_
  rintro e v20 ⟨⟨v, rfl⟩, h9, k9⟩
  have S20 := Lib.hid (S19.out.call h9 k9)
  clear h9 k9
  have HEX := (allW base P TA tc L f).expr _ so S20.out.1 (by omega)
  rw [HEE.out] at HEX
  have HEX := Lib.hid HEX
  go_wp2_with fail
  refine (HEX.out).mono ?_
  rintro e v21 ⟨rfl, h9, k9⟩
  have S21 := Lib.hid (S20.out.call h9 k9)
  clear h9 k9
  have c22 := S21.out.c4
  have y22 := S21.out.free 4
  have S22 := Lib.hid (sm_set4 S21.out H1.out (Nat.le_refl _) ve)
  obtain ⟨sw, hsw⟩ : ∃ sw, wantP L se tSemi = sw := ⟨_, rfl⟩
  have HW := want_pm _ S22.out.1 tSemi
  rw [hsw] at HW
  have HW := Lib.hid HW
  have hst : stmtP L f s = putS sw ⟨2, 0, vm, [], ve, ps⟩ := by unfold stmtP; rw [HBODY.out]; dsimp only; rw [hsw]
  have HST := Lib.hid hst
  have hss : sw.ss = s.ss := by
    have a := (G.want (L := L) se tSemi).hs
    rw [hsw] at a
    have b := HG.out.hs
    rw [HBODY.out] at b
    exact a.trans b
  have h64' : sw.ss.length ≤ 64 := by rw [hss]; exact h64
  clear hst hsw hss
  go_wp2_with fail
  refine (HW.out).mono ?_
  rintro e v23 ⟨⟨v, rfl⟩, h9, k9⟩
  have S23 := Lib.hid (S22.out.call h9 k9)
  clear h9 k9
  obtain ⟨SR, sr, ER, er, ev, hpr⟩ := S23.out.1
  have HPR := Lib.hid hpr
  have c2 := hpr.c2
  obtain ⟨nn, hnn⟩ : ∃ nn, nn = sw.ss.length := ⟨_, rfl⟩
  rw [← hnn] at c2
  have HNN := Lib.hid hnn
  have hn64 : nn + 1 ≤ 1000000 := by omega
  have r0 := S23.out.c0
  have r1 := S23.out.c1
  have r2 := S23.out.c2
  have r3 := S23.out.c3
  have r4 := S23.out.c4
  have r5 := S23.out.c5
  have c2o : ∀ o : Obj, (v23.alloc o).cell? ⟨P, 2, none⟩ = some (.slice SR nn sr) := fun o => (World.cell?_alloc_lt v23 o ⟨P, 2, none⟩ HPR.out.lt).trans c2
  clear hpr hnn
  go_wp2_with fail
  have HGO := Lib.hid (fun o : Obj => HPR.out.below (w' := (v23.alloc o).drew) ((Below.refl _ _).alloc (Nat.le_refl _) o).drew)
  go_region_law (refine appS_step rfl (.tmp 58) (.tmp 60) rfl base SR sr sw.ss nn HNN.out.symm rfl (HGO.out _).ownS v23.heap.size rfl (⟨2, 0, vm, [], ve, ps⟩, (Value.slice none 0 0)) (heap_alloc_new _ _) HARG.out hn64 (by have := HPR.out.base_le; simp; omega) ?_; intro A' cap' w5 ho hg; have hPB := pr_ne (HGO.out _) hg P _ _ _ (HGO.out _).blk (by decide); have q3 := prow_c2 HNN.out hPB; have z3 := pfree_row hPB 2; have HX := Lib.hid (pr_putS (HGO.out _) ho hg h64'); clear hPB ho hg)
  all_goals
    go_wp2
    go_end0
    have hn := HNN.out
    subst hn
    obtain ⟨x1, x2⟩ := HX.out
    exact ⟨⟨_, rfl⟩, by rw [HST.out]; exact x1.pm, (((K1.out.trans S23.out.2.1).toBelow hbl).trans (Below.mono (((Below.refl _ _).alloc (Nat.le_refl _) _).drew) HPR.out.base_le)).trans x2⟩
set_option maxRecDepth 100000 in
set_option maxHeartbeats 2000000 in
theorem stmt_input (f : Nat) (w : World) (s : PS) (h : PM base P TA tc L s w) (h64 : s.ss.length ≤ 64) (hf : 12 * L.length + 20 ≤ f) (hl : s.ss.length ≠ 64) (hq1 : isP L s tInput = true) :
    Calls Tryz.prog 33 #[PP P] w fun e w' => (∃ v, e = .returned v) ∧ PM base P TA tc L (stmtP L f s) w' ∧ Below base w w' := by
  have hbl := h.base_le
  obtain ⟨kd, tx, nm, ps, hnow⟩ : ∃ kd tx nm ps, nowP L s = ⟨kd, tx, nm, ps⟩ := ⟨_, _, _, _, rfl⟩
  have HNOW := Lib.hid hnow
  have H := Lib.hid h
  have HG := Lib.hid (body_G (L := L) f s)
  clear h hnow
  have q6 : ((s.ss.length : Int) == 64) = false := by rw [beq_eq_false_iff_ne]; omega
  obtain ⟨sn, vn, hn⟩ : ∃ sn vn, numberP L (advP s) = (sn, vn) := ⟨_, _, rfl⟩
  obtain ⟨sm, vm, hm⟩ : ∃ sm vm, nameP L sn = (sm, vm) := ⟨_, _, rfl⟩
  obtain ⟨sh, vh, hh⟩ : ∃ sh vh, shapeP L f sm = (sh, vh) := ⟨_, _, rfl⟩
  have HBODY := Lib.hid (show bodyP L f s = (sh, ⟨1, vn, vm, vh, 0, ps⟩) from by unfold bodyP; rw [if_neg hl, hq1, HNOW.out]; dsimp only; rw [hn]; dsimp only; rw [hm]; dsimp only; rw [hh]; rfl)
  have Q1 := Lib.hid hq1
  have HN := Lib.hid hn
  have HM := Lib.hid hm
  have HH := Lib.hid hh
  clear hl hq1 hn hm hh
  go_enter Tryz.func33, Tryz.ntmps33
  go_wp2_with fail
  refine (now_pm w H.out HNOW.out).mono ?_
  rintro e w1 ⟨rfl, h1, k1, b1⟩
  obtain ⟨SA, sc, c2, d2⟩ := pm_c2 h1
  clear c2
  have H1 := Lib.hid (show ∃ s0, PM base P TA tc L s0 w1 from ⟨s, h1⟩)
  have K1 := Lib.hid k1
  have HP1 := Lib.hid h1
  clear h1 k1 b1
  go_wp2_with fail
  obtain ⟨wa, hwa⟩ : ∃ wa, wa = w1.alloc (.cells #[.int .i64 0, .int .i64 0, .string ⟨#[]⟩, .slice none 0 0, .int .i64 0, .int .i64 ps] 38) := ⟨_, rfl⟩
  rw [← hwa]
  have SA0 := Lib.hid (show SM base P TA tc L w1 w1.heap.size s 0 0 ⟨#[]⟩ (.slice none 0 0) 0 ps wa from by rw [hwa]; exact ⟨HP1.out.below (one_new w1 _), KT.below (one_new w1 _), heap_alloc_new _ _, ⟨none, 0, 0, rfl⟩⟩)
  clear hwa d2
  refine (take_yes _ SA0.out.1 tInput Q1.out).mono ?_
  rintro e v24 ⟨rfl, h9, k9⟩
  have S24 := Lib.hid (SA0.out.call h9 k9)
  clear h9 k9
  have c25 := S24.out.c0
  have y25 := S24.out.free 0
  have S25 := Lib.hid (sm_set0 S24.out H1.out (Nat.le_refl _) 1)
  have HNU := number_pm _ S25.out.1
  rw [HN.out] at HNU
  have HNU := Lib.hid HNU
  go_wp2_with fail
  refine (HNU.out).mono ?_
  rintro e v26 ⟨rfl, h9, k9⟩
  have S26 := Lib.hid (S25.out.call h9 k9)
  clear h9 k9
  have c27 := S26.out.c1
  have y27 := S26.out.free 1
  have S27 := Lib.hid (sm_set1 S26.out H1.out (Nat.le_refl _) vn)
  have HNM := name_pm _ S27.out.1
  rw [HM.out] at HNM
  have HNM := Lib.hid HNM
  go_wp2_with fail
  refine (HNM.out).mono ?_
  rintro e v28 ⟨rfl, h9, k9⟩
  have S28 := Lib.hid (S27.out.call h9 k9)
  clear h9 k9
  have c29 := S28.out.c2
  have y29 := S28.out.free 2
  have S29 := Lib.hid (sm_set2 S28.out H1.out (Nat.le_refl _) vm)
  have HSH := shape_pm f _ S29.out.1 (by omega)
  rw [HH.out] at HSH
  have HSH := Lib.hid HSH
  go_wp2_with fail
  refine HSH.out.mono ?_
  rintro e v30 ⟨HA, HAc, rfl, h9, k9⟩
  have S30 := Lib.hid (S29.out.call h9 k9)
  clear h9 k9
  have HARG : Hid (∃ A c, (Value.slice HA vh.length HAc) = .slice A vh.length c) := ⟨HA, HAc, rfl⟩
  have c31 := S30.out.c3
  have y31 := S30.out.free 3
  have S31 := Lib.hid (sm_set3 S30.out H1.out (Nat.le_refl _) HA vh.length HAc)
  obtain ⟨sw, hsw⟩ : ∃ sw, wantP L sh tSemi = sw := ⟨_, rfl⟩
  have HW := want_pm _ S31.out.1 tSemi
  rw [hsw] at HW
  have HW := Lib.hid HW
  have hst : stmtP L f s = putS sw ⟨1, vn, vm, vh, 0, ps⟩ := by unfold stmtP; rw [HBODY.out]; dsimp only; rw [hsw]
  have HST := Lib.hid hst
  have hss : sw.ss = s.ss := by
    have a := (G.want (L := L) sh tSemi).hs
    rw [hsw] at a
    have b := HG.out.hs
    rw [HBODY.out] at b
    exact a.trans b
  have h64' : sw.ss.length ≤ 64 := by rw [hss]; exact h64
  clear hst hsw hss
  go_wp2_with fail
  refine (HW.out).mono ?_
  rintro e v32 ⟨⟨v, rfl⟩, h9, k9⟩
  have S32 := Lib.hid (S31.out.call h9 k9)
  clear h9 k9
  obtain ⟨SR, sr, ER, er, ev, hpr⟩ := S32.out.1
  have HPR := Lib.hid hpr
  have c2 := hpr.c2
  obtain ⟨nn, hnn⟩ : ∃ nn, nn = sw.ss.length := ⟨_, rfl⟩
  rw [← hnn] at c2
  have HNN := Lib.hid hnn
  have hn64 : nn + 1 ≤ 1000000 := by omega
  have r0 := S32.out.c0
  have r1 := S32.out.c1
  have r2 := S32.out.c2
  have r3 := S32.out.c3
  have r4 := S32.out.c4
  have r5 := S32.out.c5
  have c2o : ∀ o : Obj, (v32.alloc o).cell? ⟨P, 2, none⟩ = some (.slice SR nn sr) := fun o => (World.cell?_alloc_lt v32 o ⟨P, 2, none⟩ HPR.out.lt).trans c2
  clear hpr hnn
  go_wp2_with fail
  have HGO := Lib.hid (fun o : Obj => HPR.out.below (w' := (v32.alloc o).drew) ((Below.refl _ _).alloc (Nat.le_refl _) o).drew)
  go_region_law (refine appS_step rfl (.tmp 58) (.tmp 60) rfl base SR sr sw.ss nn HNN.out.symm rfl (HGO.out _).ownS v32.heap.size rfl (⟨1, vn, vm, vh, 0, ps⟩, (Value.slice HA vh.length HAc)) (heap_alloc_new _ _) HARG.out hn64 (by have := HPR.out.base_le; simp; omega) ?_; intro A' cap' w5 ho hg; have hPB := pr_ne (HGO.out _) hg P _ _ _ (HGO.out _).blk (by decide); have q3 := prow_c2 HNN.out hPB; have z3 := pfree_row hPB 2; have HX := Lib.hid (pr_putS (HGO.out _) ho hg h64'); clear hPB ho hg)
  all_goals
    go_wp2
    go_end0
    have hn := HNN.out
    subst hn
    obtain ⟨x1, x2⟩ := HX.out
    exact ⟨⟨_, rfl⟩, by rw [HST.out]; exact x1.pm, (((K1.out.trans S32.out.2.1).toBelow hbl).trans (Below.mono (((Below.refl _ _).alloc (Nat.le_refl _) _).drew) HPR.out.base_le)).trans x2⟩
theorem stmt_any (f : Nat) (w : World) (s : PS) (h : PM base P TA tc L s w) (h64 : s.ss.length ≤ 64) (hf : 12 * L.length + 20 ≤ f) :
    Calls Tryz.prog 33 #[PP P] w fun e w' => (∃ v, e = .returned v) ∧ PM base P TA tc L (stmtP L f s) w' ∧ Below base w w' := by
  by_cases hl : s.ss.length = 64
  · exact stmt_full f w s h h64 hf hl
  cases hq1 : isP L s tInput with
  | true => exact stmt_input f w s h h64 hf hl hq1
  | false =>
    cases hq2 : isP L s tLet with
    | true => exact stmt_let f w s h h64 hf hl hq1 hq2
    | false =>
      cases hq3 : isP L s tOutput with
      | true => exact stmt_output f w s h h64 hf hl hq1 hq2 hq3
      | false => exact stmt_none f w s h h64 hf hl hq1 hq2 hq3
end
end Go.Proofs.YtcefclglmhpdeaaGreatDoor
