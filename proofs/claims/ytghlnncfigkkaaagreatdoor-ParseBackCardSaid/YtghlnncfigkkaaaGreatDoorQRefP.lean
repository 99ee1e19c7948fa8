/-
  The reference's Parse and Text, walked.
-/
import Derived.Test.YtghlnncfigkkaaaGreatDoorQRefI1
import Derived.Test.YtghlnncfigkkaaaGreatDoorQRefI4
import Derived.Test.YtghlnncfigkkaaaGreatDoorQTree
import Derived.Test.YtghlnncfigkkaaaGreatDoorQRScan
namespace Go.Proofs.YtghlnncfigkkaaaGreatDoor
set_option linter.unusedVariables false
set_option linter.unusedSimpArgs false
open Go.RowKit
attribute [local go_sem ↓] tok_field3 tok_field0
section
variable {X Y : Nat → Prop} {TA SA : Option Addr} {tc n ns sc : Nat} {L : List Tok} {s s' : PS} {w0 w w1 w' wS : World} {i ne ec d c p : Nat} {EA : Option Addr} {b : Array Value} {Q : List (Nat × Obj)}
theorem rstmt_any (f : Nat) (h : ST X TA L s w n SA ns sc i EA ne ec d c p) (hf : 12 * L.length + 20 ≤ f) :
  Calls Tryz.prog 88 #[.agg #[.slice TA n tc, .int .i64 ((i : Nat) : Int), .slice SA ns sc, .slice EA ne ec, .int .i64 ((d : Nat) : Int), .int .i64 ((c : Nat) : Int), .int .i64 ((p : Nat) : Int)]] w (RSt X TA tc L n w (rstmtP L f s)) := by
 by_cases hl : s.ss.length = 64
 ·exact rstmt_full f h hf hl
 cases hq1 : isP L s tInput with
 | true => exact rstmt_in f h hf hl hq1
 | false =>
  cases hq2 : isP L s tLet with
  | true => exact rstmt_let f h hf hl hq1 hq2
  | false =>
   cases hq3 : isP L s tOutput with
   | true => exact rstmt_out f h hf hl hq1 hq2 hq3
   | false => exact rstmt_none f h hf hl hq1 hq2 hq3
theorem rloop_done (n f : Nat) (s : PS) (h : s.err ≠ none ∨ (nowP L s).kind = 0) : rloopP L n f s = s := by
 cases n with
 | zero => rfl
 | succ n =>
  rw [rloopP]
  rcases h with h | h
  ·simp [isNone_no h]
  ·simp [h]
theorem rstmt_i (f : Nat) (s : PS) (hf : L.length < f) (he : (rstmtP L f s).err = none) (hi : s.i ≤ L.length) : s.i + 1 ≤ (rstmtP L f s).i ∧ (rstmtP L f s).i ≤ L.length := by
 obtain ⟨h1, h2⟩ := rstmt_eq (L := L) f s (by omega)
 rw [h1] at he
 rw [h2 he]
 obtain ⟨a1, a2, a3, _⟩ := stmt_i (L := L) f s
 exact ⟨a2 he, a3 hi⟩
end
def RP (TA : Option Addr) (tc : Nat) (L : List Tok) (n : Nat) (w : World) (F : Nat) (R : PS) (wr : World) : Prop :=
 ∃ (k : Nat) (s' : PS) (SA : Option Addr) (ns sc i : Nat) (EA : Option Addr) (ne ec d c p : Nat), R = rloopP L k F s' ∧ wr.heap[w.heap.size + 1]? = some (.cells #[.slice TA n tc, .int .i64 ((i : Nat) : Int), .slice SA ns sc, .slice EA ne ec, .int .i64 ((d : Nat) : Int), .int .i64 ((c : Nat) : Int), .int .i64 ((p : Nat) : Int)] 165 (0, 0)) ∧ wr.heap[w.heap.size]? = some (.cells #[.slice none 0 0, .slice none 0 0] 26 (0, 0)) ∧ ST noX TA L s' wr n SA ns sc i EA ne ec d c p ∧ Below w.heap.size w wr ∧ (s'.err = none → L.length - s'.i + 2 ≤ k) ∧ 1 ≤ k
def msrQ (L : List Tok) (s : PS) : Nat := if s.err = none then L.length - s.i + 1 else 0
def msrN (n g : Nat) (w : World) : Nat := match w.cell? ⟨g, 5, none⟩ with | some v => if (intOf v) = 0 then n - curI g w + 1 else 0 | none => 0
theorem msrN_eq {TA SA : Option Addr} {tc n ns sc : Nat} {L : List Tok} {s' : PS} {wr : World} {g : Nat} {i ne ec d c p : Nat} {EA : Option Addr} (h5 : wr.heap[g]? = some (.cells #[.slice TA n tc, .int .i64 ((i : Nat) : Int), .slice SA ns sc, .slice EA ne ec, .int .i64 ((d : Nat) : Int), .int .i64 ((c : Nat) : Int), .int .i64 ((p : Nat) : Int)] 165 (0, 0))) (h : ST noX TA L s' wr n SA ns sc i EA ne ec d c p) : msrN L.length g wr = msrQ L s' := by
 have hc : wr.cell? ⟨g, 5, none⟩ = some (.int .i64 ((c : Nat) : Int)) := cell_of_row _ _ 5 _ _ _ h5
 have hi : wr.cell? ⟨g, 1, none⟩ = some (.int .i64 ((i : Nat) : Int)) := cell_of_row _ _ 1 _ _ _ h5
 have he := h.ecc
 have hi2 : curI g wr = s'.i := by
  unfold curI
  rw [hi, ← h.ei]
  simp [intOf]
 unfold msrN msrQ
 rw [hc, hi2]
 by_cases h1 : s'.err = none
 ·rw [if_pos h1]
  have : c = 0 := by rw [he, eC_none h1]
  subst this
  rfl
 ·rw [if_neg h1]
  have := h.rr.eC_some h1
  have h2 : ¬ (intOf (.int .i64 ((c : Nat) : Int))) = 0 := by simp only [intOf]; omega
  simp only [if_neg h2]
def RParseOut (W : World) (R : PS) (e : Ending) (w' : World) : Prop :=
 Below W.heap.size W w' ∧ ((R.err = none ∧ ∃ SA sc EA ec, e = .returned (.tuple #[.agg #[.slice SA R.ss.length sc, .slice EA R.es.length ec], .int .i64 0, .int .i64 0]) ∧ OwnS w' 0 SA sc R.ss ∧ OwnE w' 0 EA ec R.es) ∨
  ∃ c p : Nat, R.err = some (c, p) ∧ e = .returned (.tuple #[.agg #[.slice none 0 0, .slice none 0 0], .int .i64 c, .int .i64 p]))
set_option maxRecDepth 100000 in
set_option maxHeartbeats 4000000 in
theorem rparse_any (L : List Tok) (TA : Option Addr) (tc F : Nat) (w : World) (hL : L.length ≤ 1000) (hT : RdT w w.heap.size TA L) (hF : 12 * L.length + 20 ≤ F) :
  Calls Tryz.prog 47 #[.slice TA L.length tc] w (RParseOut w (parseP F L)) := by
 obtain ⟨R, hR⟩ : ∃ R, R = rloopP L F F startP := ⟨_, rfl⟩
 have hre : R.err = (parseP F L).err ∧ ((parseP F L).err = none → R = parseP F L) := by rw [hR]; exact rloop_eq F (by omega) F startP
 have HRE := Lib.hid hre
 have HF := Lib.hid hF
 obtain ⟨n, hn⟩ : ∃ n, n = L.length := ⟨_, rfl⟩
 obtain ⟨wa, hwa⟩ : ∃ wa, wa = w.alloc (.cells #[.slice none 0 0, .slice none 0 0] 26) := ⟨_, rfl⟩
 obtain ⟨wb, hwb⟩ : ∃ wb, wb = wa.alloc (.cells #[.slice TA n tc, .int .i64 ((0 : Nat) : Int), .slice none ((0 : Nat)) 0, .slice none ((0 : Nat)) 0, .int .i64 ((0 : Nat) : Int), .int .i64 ((0 : Nat) : Int), .int .i64 ((0 : Nat) : Int)] 165) := ⟨_, rfl⟩
 have hba : Below w.heap.size w wa := by rw [hwa]; exact one_new w _
 have hsa : wa.heap.size = w.heap.size + 1 := by rw [hwa]; simp
 have hbb : Below wa.heap.size wa wb := by rw [hwb]; exact one_new wa _
 have hbw : Below w.heap.size w wb := hba.trans (hbb.mono (by omega))
 have hST : ST noX TA L startP wb n none 0 0 0 none 0 0 0 0 0 :=
  ⟨⟨OwnSX.nil _ _ _, OwnEX.nil _ _ _, (hT.below hbw).more hbw.size, fun c p h => (by cases h), hL, Nat.zero_le _, Nat.zero_le _, Nat.zero_le _, Nat.zero_le _, fun k hk => hk.elim⟩, hn, rfl, rfl, rfl, rfl, rfl, rfl⟩
 have hTree : wb.heap[w.heap.size]? = some (.cells #[.slice none 0 0, .slice none 0 0] 26 (0, 0)) := by
  rw [hbb.block _ (by omega), hwa]
  exact heap_alloc_new w _
 have hSt : wb.heap[w.heap.size + 1]? = some (.cells #[.slice TA n tc, .int .i64 ((0 : Nat) : Int), .slice none ((0 : Nat)) 0, .slice none ((0 : Nat)) 0, .int .i64 ((0 : Nat) : Int), .int .i64 ((0 : Nat) : Int), .int .i64 ((0 : Nat) : Int)] 165 (0, 0)) := by
  rw [hwb, ← hsa]
  exact heap_alloc_new wa _
 have HRP := Lib.hid (show RP TA tc L n w F R wb from ⟨F, startP, none, 0, 0, 0, none, 0, 0, 0, 0, 0, hR, hSt, hTree, hST, hbw, fun _ => by show L.length - 0 + 2 ≤ F; omega, by omega⟩)
 have HWB := Lib.hid (show (w.alloc (.cells #[.slice none 0 0, .slice none 0 0] 26)).alloc (.cells #[.slice TA n tc, .int .i64 0, .slice none 0 0, .slice none 0 0, .int .i64 0, .int .i64 0, .int .i64 0] 165) = wb from by rw [hwb, hwa]; rfl)
 have HT := Lib.hid hT
 rw [← hn]
 have HN := Lib.hid hn
 clear hR hre hT hwa hwb hba hsa hbb hbw hST hTree hSt hn hF
 go_enter Tryz.func47, Tryz.ntmps47
 go_wp2
 rw [HWB.out]
 go_loopw [] (fun wr => RP TA tc L n w F R wr) (fun wr => msrN L.length (w.heap.size + 1) wr)
 case atStart => exact HRP.out
 case round =>
  obtain ⟨k, s', SA, ns, sc, i, EA, ne, ec, d, c, p, hr, h5, h2, hst, hb, hk, hk1⟩ := hrel
  have HMS := Lib.hid (msrN_eq h5 hst)
  obtain ⟨kd, tx, nm, ps, hnow⟩ : ∃ kd tx nm ps, nowP L s' = ⟨kd, tx, nm, ps⟩ := ⟨_, _, _, _, rfl⟩
  have HNOW := Lib.hid hnow
  have HST := Lib.hid hst
  have H5 := Lib.hid h5
  have H2 := Lib.hid h2
  have HB := Lib.hid hb
  have HRR := Lib.hid hr
  have HK := Lib.hid (And.intro hk hk1)
  obtain ⟨r0, r1, r2, r3, r4, r5, r6⟩ := cells7 h5
  obtain ⟨y0, y1, y2, y3, y4, y5, y6⟩ := frees7 h5
  have z0 := cell_of_row _ _ 0 _ _ _ h2
  have z1 := cell_of_row _ _ 1 _ _ _ h2
  have x0 := pfree_row h2 0
  have x1 := pfree_row h2 1
  clear hst h5 h2 hb hr hnow hk hk1
  by_cases he : s'.err = none
  ·have hc0 : c = 0 := by rw [HST.out.ecc, eC_none he]
   have q0 : ((c : Int) == 0) = true := by rw [beq_iff_eq]; omega
   have q0' : ((c : Int) != 0) = false := by rw [bne_eq_false_iff_eq]; omega
   have HE := Lib.hid he
   clear hc0 he
   by_cases hkd : kd = 0
   ·have q : ((kd : Int) != 0) = false := by rw [bne_eq_false_iff_eq]; omega
    have HX := Lib.hid (show R = s' from by rw [HRR.out]; exact rloop_done _ _ _ (.inr (by rw [HNOW.out]; exact hkd)))
    clear hkd
    go_wp2_with fail
    refine (snow HST.out tc HNOW.out).mono ?_
    rintro e w3 ⟨rfl, b3⟩
    have HST3 := Lib.hid (HST.out.call b3)
    have h5 := (b3.block _ (Array.getElem?_eq_some_iff.1 H5.out).1).trans H5.out
    have h2 := (b3.block _ (Array.getElem?_eq_some_iff.1 H2.out).1).trans H2.out
    have HB3 := Lib.hid (bnext HB.out b3)
    have H23 := Lib.hid h2
    clear r0 r1 r2 r3 r4 r5 r6 y0 y1 y2 y3 y4 y5 y6 z0 z1 x0 x1 b3
    obtain ⟨r0, r1, r2, r3, r4, r5, r6⟩ := cells7 h5
    obtain ⟨y0, y1, y2, y3, y4, y5, y6⟩ := frees7 h5
    have z0 := cell_of_row _ _ 0 _ _ _ h2
    have z1 := cell_of_row _ _ 1 _ _ _ h2
    have x0 := pfree_row h2 0
    have x1 := pfree_row h2 1
    clear h5 h2
    go_wp2
    obtain ⟨wS, hwS⟩ : ∃ wS, wS = (w3.setCell ⟨w.heap.size, 0, none⟩ (.slice SA ns sc)).setCell ⟨w.heap.size, 1, none⟩ (.slice EA ne ec) := ⟨_, rfl⟩
    rw [← hwS]
    obtain ⟨s1, s2, s3⟩ := tree_store H23.out hwS
    have hbel := s3 w.heap.size w HB3.out (Nat.le_refl _)
    have g0 := cell_of_row wS _ 0 _ _ _ s1
    have g1 := cell_of_row wS _ 1 _ _ _ s1
    have hkp : ∀ (k : Nat) (cs : Array Value) (T : TypeId), w3.heap[k]? = some (.cells cs T (0, 0)) → T ≠ 26 → wS.heap[k]? = some (.cells cs T (0, 0)) := fun k cs T hk hT => by
     rw [s2 k (by rintro rfl; rw [H23.out] at hk; injection hk with hk; injection hk with _ hk; exact hT hk.symm)]
     exact hk
    have hoS := (HST3.out.rr.ownS).keep' (w' := wS) (fun g cur _ hg => hkp _ _ _ hg (by decide)) (fun g cur _ hg => hkp _ _ _ hg (by decide))
    have hoE := (HST3.out.rr.ownE).keep' (w' := wS) (fun g cur _ hg => hkp _ _ _ hg (by decide)) (fun g cur _ hg => hkp _ _ _ hg (by decide))
    have hpe : parseP F L = s' := by rw [← HX.out]; exact (HRE.out.2 (by rw [← HRE.out.1, HX.out]; exact HE.out)).symm
    have hns := HST3.out.ens
    have hne := HST3.out.ene
    clear s1 s2 s3 hwS hkp
    exact bodyPost_ret (v := .tuple #[.agg #[.slice SA ns sc, .slice EA ne ec], .int .i64 0, .int .i64 0]) (by simp [results, Tryz.results47, go_sem, g0, g1]) rfl ⟨hbel, .inl ⟨by rw [hpe]; exact HE.out, SA, sc, EA, ec, by rw [hpe, hns, hne], by rw [hpe]; exact hoS, by rw [hpe]; exact hoE⟩⟩
   ·have q : ((kd : Int) != 0) = true := by rw [bne_iff_ne]; omega
    have hlt : s'.i < L.length := now_lt (by rw [HNOW.out]; exact hkd)
    have HX := Lib.hid (show ∃ k', R = rloopP L k' F (rstmtP L F s') ∧ ((rstmtP L F s').err = none → L.length - (rstmtP L F s').i + 2 ≤ k') ∧ 1 ≤ k' from by
     obtain ⟨a1, a2⟩ := HK.out
     have a1 := a1 HE.out
     obtain ⟨k', rfl⟩ : ∃ k', k = k' + 1 := ⟨k - 1, by omega⟩
     refine ⟨k', ?_, fun hx => ?_, by omega⟩
     ·rw [HRR.out, rloopP, if_pos]
      rw [HE.out, HNOW.out]
      simpa using hkd
     ·have := rstmt_i (L := L) F s' (by have := HF.out; omega) hx (by omega)
      omega)
    have HMX := Lib.hid (show msrQ L (rstmtP L F s') < msrQ L s' from by
     unfold msrQ
     rw [if_pos HE.out]
     split
     ·rename_i hx
      have := rstmt_i (L := L) F s' (by have := HF.out; omega) hx (by omega)
      omega
     ·omega)
    clear hkd hlt
    go_wp2_with fail
    refine (snow HST.out tc HNOW.out).mono ?_
    rintro e w3 ⟨rfl, b3⟩
    have HST3 := Lib.hid (HST.out.call b3)
    have h5 := (b3.block _ (Array.getElem?_eq_some_iff.1 H5.out).1).trans H5.out
    have h2 := (b3.block _ (Array.getElem?_eq_some_iff.1 H2.out).1).trans H2.out
    have HB3 := Lib.hid (bnext HB.out b3)
    have H23 := Lib.hid h2
    have H53 := Lib.hid h5
    clear r0 r1 r2 r3 r4 r5 r6 y0 y1 y2 y3 y4 y5 y6 z0 z1 x0 x1 b3
    obtain ⟨r0, r1, r2, r3, r4, r5, r6⟩ := cells7 h5
    clear h5 h2
    go_wp2_with fail
    refine (rstmt_any F HST3.out HF.out).mono ?_
    rintro e w4 ⟨v, SA4, ns4, sc4, rfl, ⟨i4, EA4, ne4, ec4, d4, c4, p4, rfl, h4⟩, b4⟩
    have h5 := (b4.block _ (Array.getElem?_eq_some_iff.1 H53.out).1).trans H53.out
    have h2 := (b4.block _ (Array.getElem?_eq_some_iff.1 H23.out).1).trans H23.out
    have HB4 := Lib.hid (bnext HB3.out b4)
    have H24 := Lib.hid h2
    have H54 := Lib.hid h5
    have H4 := Lib.hid h4
    clear r0 r1 r2 r3 r4 r5 r6 b4 h4 h2
    obtain ⟨y0, y1, y2, y3, y4, y5, y6⟩ := frees7 h5
    obtain ⟨r0, r1, r2, r3, r4, r5, r6⟩ := cells7 h5
    clear h5
    go_wp2
    obtain ⟨wS, hwS⟩ : ∃ wS, wS = (((((((w4).setCell ⟨w.heap.size + 1, 0, none⟩ (.slice TA n tc)).setCell ⟨w.heap.size + 1, 1, none⟩ (.int .i64 ((i4 : Nat) : Int))).setCell ⟨w.heap.size + 1, 2, none⟩ (.slice SA4 ns4 sc4)).setCell ⟨w.heap.size + 1, 3, none⟩ (.slice EA4 ne4 ec4)).setCell ⟨w.heap.size + 1, 4, none⟩ (.int .i64 ((d4 : Nat) : Int))).setCell ⟨w.heap.size + 1, 5, none⟩ (.int .i64 ((c4 : Nat) : Int))).setCell ⟨w.heap.size + 1, 6, none⟩ (.int .i64 ((p4 : Nat) : Int)) := ⟨_, rfl⟩
    rw [← hwS]
    obtain ⟨s1, s2, s3, s4⟩ := st7 H54.out hwS
    have hbel := s4 w.heap.size w HB4.out (by omega)
    have hkp := only_ne H54.out s2
    obtain ⟨k', a1, a2, a3⟩ := HX.out
    have hstS : ST noX TA L (rstmtP L F s') wS n SA4 ns4 sc4 i4 EA4 ne4 ec4 d4 c4 p4 := ⟨H4.out.rr.stores HT.out hbel (by rw [s3]; exact Nat.le_refl _) hkp, H4.out.en, H4.out.ens, H4.out.ei, H4.out.ene, H4.out.ed, H4.out.ecc, H4.out.ep⟩
    exact ⟨⟨k', _, SA4, ns4, sc4, i4, EA4, ne4, ec4, d4, c4, p4, a1, s1, (s2 w.heap.size (by omega)).trans H24.out, hstS, hbel, a2, a3⟩, by rw [msrN_eq s1 hstS, HMS.out]; exact HMX.out⟩
  ·have hc0 : c ≠ 0 := by rw [HST.out.ecc]; exact HST.out.rr.eC_some he
   have q0 : ((c : Int) == 0) = false := by rw [beq_eq_false_iff_ne]; omega
   have q0' : ((c : Int) != 0) = true := by rw [bne_iff_ne]; omega
   have HX := Lib.hid (show R = s' from by rw [HRR.out]; exact rloop_done _ _ _ (.inl he))
   have HE := Lib.hid (show s'.err = some (c, p) from by
    have h1 := HST.out.ecc
    have h2 := HST.out.ep
    unfold eC at h1
    unfold eP at h2
    cases h : s'.err with
    | none => exact absurd h he
    | some x => obtain ⟨a, b⟩ := x; rw [h] at h1 h2; dsimp only at h1 h2; rw [h1, h2])
   clear hc0 he
   go_wp2_with fail
   go_region
   all_goals
    go_wp2
    obtain ⟨wS, hwS⟩ : ∃ wS, wS = (wr.setCell ⟨w.heap.size, 0, none⟩ (.slice none 0 0)).setCell ⟨w.heap.size, 1, none⟩ (.slice none 0 0) := ⟨_, rfl⟩
    rw [← hwS]
    obtain ⟨s1, s2, s3⟩ := tree_store H2.out hwS
    have hbel := s3 w.heap.size w HB.out (Nat.le_refl _)
    have g0 := cell_of_row wS.drew _ 0 _ _ _ s1
    have g1 := cell_of_row wS.drew _ 1 _ _ _ s1
    clear s1 s2 s3 hwS
    exact bodyPost_ret (v := .tuple #[.agg #[.slice none 0 0, .slice none 0 0], .int .i64 ((c : Nat) : Int), .int .i64 ((p : Nat) : Int)]) (by simp [results, Tryz.results47, go_sem, g0, g1]) rfl ⟨hbel.drew, .inr ⟨c, p, by rw [← HRE.out.1, HX.out]; exact HE.out, rfl⟩⟩
theorem rscan_code {s : ByteArray} {c p : Nat} (h : scanM s = .err c p) : c ≠ 0 := by
 unfold scanM at h
 split at h
 ·injection h with h _; omega
 ·have := scanGo_code s _ _ _ _ _ h; omega
def RTextOut (W : World) (F : Nat) (S : ScanR) (e : Ending) (w' : World) : Prop :=
 Below W.heap.size W w' ∧ ((∃ l, S = .toks l ∧ (parseP F l).err = none ∧ ∃ SA sc EA ec, e = .returned (.tuple #[.agg #[.slice SA (parseP F l).ss.length sc, .slice EA (parseP F l).es.length ec], .int .i64 0, .int .i64 0]) ∧ OwnS w' 0 SA sc (parseP F l).ss ∧ OwnE w' 0 EA ec (parseP F l).es) ∨
  (∃ (l : List Tok) (c p : Nat), S = .toks l ∧ (parseP F l).err = some (c, p) ∧ e = .returned (.tuple #[.agg #[.slice none 0 0, .slice none 0 0], .int .i64 c, .int .i64 p])) ∨
  ∃ c p : Nat, S = .err c p ∧ e = .returned (.tuple #[.agg #[.slice none 0 0, .slice none 0 0], .int .i64 c, .int .i64 p]))
set_option maxRecDepth 100000 in
set_option maxHeartbeats 4000000 in
theorem rtext_any (s : ByteArray) (F : Nat) (w : World) (hs : s.size ≤ 100000) (hF : ∀ l, scanM s = .toks l → 12 * l.length + 20 ≤ F) :
  Calls Tryz.prog 19 #[.string s] w (RTextOut w F (scanM s)) := by
 obtain ⟨wa, hwa⟩ : ∃ wa, wa = w.alloc (.cells #[.slice none 0 0, .slice none 0 0] 26) := ⟨_, rfl⟩
 have hba : Below w.heap.size w wa := by rw [hwa]; exact one_new w _
 have htree : wa.heap[w.heap.size]? = some (.cells #[.slice none 0 0, .slice none 0 0] 26 (0, 0)) := by rw [hwa]; exact heap_alloc_new w _
 have HWA := Lib.hid hwa
 have HBA := Lib.hid hba
 have HTREE := Lib.hid htree
 have HF := Lib.hid hF
 clear hwa hba htree hF
 go_enter Tryz.func19, Tryz.ntmps19
 go_wp2_with fail
 rw [← HWA.out]
 refine (rscan_any s wa hs).mono ?_
 rintro e w2 ⟨b2, h⟩
 have HB2 := Lib.hid (bnext HBA.out b2)
 have ht2 := (b2.block w.heap.size (Array.getElem?_eq_some_iff.1 HTREE.out).1).trans HTREE.out
 have HT2 := Lib.hid ht2
 clear b2
 rcases h with ⟨l, A, cap, hR, rfl, o2⟩ | ⟨c, p, hR, rfl⟩
 ·have hlen := (scanM_len hR).1
  have HR := Lib.hid hR
  have HP := Lib.hid (rparse_any l A cap F w2 (by omega) o2.rd (HF.out l hR))
  clear hR o2 ht2
  go_wp2_with fail
  refine HP.out.mono ?_
  rintro e w3 ⟨b3, h3⟩
  have HB3 := Lib.hid (bnext HB2.out b3)
  have ht3 := (b3.block w.heap.size (Array.getElem?_eq_some_iff.1 HT2.out).1).trans HT2.out
  have z0 := cell_of_row w3 _ 0 _ _ _ ht3
  have z1 := cell_of_row w3 _ 1 _ _ _ ht3
  have y0 := pfree_row ht3 0
  have y1 := pfree_row ht3 1
  have HT3 := Lib.hid ht3
  clear b3 ht3
  rcases h3 with ⟨hn, SA, sc, EA, ec, rfl, oS, oE⟩ | ⟨c, p, hn, rfl⟩
  ·obtain ⟨ns, hns⟩ : ∃ ns, ns = (parseP F l).ss.length := ⟨_, rfl⟩
   obtain ⟨ne, hne⟩ : ∃ ne, ne = (parseP F l).es.length := ⟨_, rfl⟩
   rw [← hns, ← hne]
   have HN := Lib.hid hn
   have HOS := Lib.hid oS
   have HOE := Lib.hid oE
   have HNS := Lib.hid hns
   have HNE := Lib.hid hne
   clear hn oS oE hns hne
   go_wp2
   obtain ⟨wS, hwS⟩ : ∃ wS, wS = (w3.setCell ⟨w.heap.size, 0, none⟩ (.slice SA ns sc)).setCell ⟨w.heap.size, 1, none⟩ (.slice EA ne ec) := ⟨_, rfl⟩
   rw [← hwS]
   obtain ⟨s1, s2, s3⟩ := tree_store HT3.out hwS
   have hbel := s3 w.heap.size w HB3.out (Nat.le_refl _)
   have g0 := cell_of_row wS _ 0 _ _ _ s1
   have g1 := cell_of_row wS _ 1 _ _ _ s1
   have hkp : ∀ (k : Nat) (cs : Array Value) (T : TypeId), w3.heap[k]? = some (.cells cs T (0, 0)) → T ≠ 26 → wS.heap[k]? = some (.cells cs T (0, 0)) := fun k cs T hk hT => by
    rw [s2 k (by rintro rfl; rw [HT3.out] at hk; injection hk with hk; injection hk with _ hk; exact hT hk.symm)]
    exact hk
   have hoS := (HOS.out).keep' (w' := wS) (fun g cur _ hg => hkp _ _ _ hg (by decide)) (fun g cur _ hg => hkp _ _ _ hg (by decide))
   have hoE := (HOE.out).keep' (w' := wS) (fun g cur _ hg => hkp _ _ _ hg (by decide)) (fun g cur _ hg => hkp _ _ _ hg (by decide))
   clear s1 s2 s3 hwS
   exact bodyPost_ret (v := .tuple #[.agg #[.slice SA ns sc, .slice EA ne ec], .int .i64 0, .int .i64 0]) (by simp [results, Tryz.results19, go_sem, g0, g1]) rfl ⟨hbel, .inl ⟨l, HR.out, HN.out, SA, sc, EA, ec, by rw [← HNS.out, ← HNE.out], hoS, hoE⟩⟩
  ·have HN := Lib.hid hn
   clear hn
   go_wp2
   obtain ⟨wS, hwS⟩ : ∃ wS, wS = (w3.setCell ⟨w.heap.size, 0, none⟩ (.slice none 0 0)).setCell ⟨w.heap.size, 1, none⟩ (.slice none 0 0) := ⟨_, rfl⟩
   rw [← hwS]
   obtain ⟨s1, s2, s3⟩ := tree_store HT3.out hwS
   have hbel := s3 w.heap.size w HB3.out (Nat.le_refl _)
   have g0 := cell_of_row wS _ 0 _ _ _ s1
   have g1 := cell_of_row wS _ 1 _ _ _ s1
   clear s1 s2 s3 hwS
   exact bodyPost_ret (v := .tuple #[.agg #[.slice none 0 0, .slice none 0 0], .int .i64 ((c : Nat) : Int), .int .i64 ((p : Nat) : Int)]) (by simp [results, Tryz.results19, go_sem, g0, g1]) rfl ⟨hbel, .inr (.inl ⟨l, c, p, HR.out, HN.out, rfl⟩)⟩
 ·have HR := Lib.hid hR
  have z0 := cell_of_row w2 _ 0 _ _ _ ht2
  have z1 := cell_of_row w2 _ 1 _ _ _ ht2
  have y0 := pfree_row ht2 0
  have y1 := pfree_row ht2 1
  have q0 : ((c : Int) != 0) = true := by rw [bne_iff_ne]; have := rscan_code HR.out; omega
  clear hR ht2
  go_wp2
  obtain ⟨wS, hwS⟩ : ∃ wS, wS = (w2.setCell ⟨w.heap.size, 0, none⟩ (.slice none 0 0)).setCell ⟨w.heap.size, 1, none⟩ (.slice none 0 0) := ⟨_, rfl⟩
  rw [← hwS]
  obtain ⟨s1, s2, s3⟩ := tree_store HT2.out hwS
  have hbel := s3 w.heap.size w HB2.out (Nat.le_refl _)
  have g0 := cell_of_row wS _ 0 _ _ _ s1
  have g1 := cell_of_row wS _ 1 _ _ _ s1
  clear s1 s2 s3 hwS
  exact bodyPost_ret (v := .tuple #[.agg #[.slice none 0 0, .slice none 0 0], .int .i64 ((c : Nat) : Int), .int .i64 ((p : Nat) : Int)]) (by simp [results, Tryz.results19, go_sem, g0, g1]) rfl ⟨hbel, .inr (.inr ⟨c, p, HR.out, rfl⟩)⟩
end Go.Proofs.YtghlnncfigkkaaaGreatDoor
