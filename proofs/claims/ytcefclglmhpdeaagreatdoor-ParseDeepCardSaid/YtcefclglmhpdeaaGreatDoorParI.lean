/-
  The parser's levels at any fuel; walks of shape and name over the state.
-/
import Derived.Test.YtcefclglmhpdeaaGreatDoorParH
namespace Go.Proofs.YtcefclglmhpdeaaGreatDoor
set_option linter.unusedVariables false
set_option linter.unusedSimpArgs false
open Go.RowKit
attribute [local go_sem ↓] tok_field3 tok_field0
theorem allW (base P : Nat) (TA : Option Addr) (tc : Nat) (L : List Tok) (f : Nat) : AllW base P TA tc L f := by
  induction f using Nat.strongRecOn with
  | ind f ih =>
    cases f with
    | zero => exact ⟨fun w s h hf => absurd hf (by omega), fun w s h hf => absurd hf (by omega), fun w s h hf => absurd hf (by omega), fun w s h hf => absurd hf (by omega), fun w s h hf => absurd hf (by omega), fun w s h hf => absurd hf (by omega)⟩
    | succ f =>
      have ih' : ∀ f', f' ≤ f → AllW base P TA tc L f' := fun f' h => ih f' (by omega)
      exact ⟨fun w s h hf => expr_step f ih' w s h hf, fun w s h hf => sum_step f ih' w s h hf, fun w s h hf => prod_step f ih' w s h hf, fun w s h hf => sign_step f ih' w s h hf, fun w s h hf => post_step f ih' w s h hf, fun w s h hf => atom_step f ih' w s h hf⟩
section
variable {base P tc : Nat} {TA : Option Addr} {L : List Tok} {s : PS}
theorem name_pm (w : World) (h : PM base P TA tc L s w) :
    Calls Tryz.prog 58 #[PP P] w fun e w' => e = .returned (.string (nameP L s).2) ∧ PM base P TA tc L (nameP L s).1 w' ∧ KT base w w' := by
  obtain ⟨_, _, _, _, _, h⟩ := h
  exact name_any w h
theorem PM.base_le {w : World} (h : PM base P TA tc L s w) : base ≤ w.heap.size := by
  obtain ⟨_, _, _, _, _, h⟩ := h
  exact h.base_le
def ShapeRel (base P : Nat) (TA : Option Addr) (tc : Nat) (L : List Tok) (w : World) (R : PS × List Nat) (av : Value) (wr : World) : Prop :=
  ∃ (f' : Nat) (s' : PS) (l : List Nat) (A : Option Addr) (cap n : Nat), av = .slice A n cap ∧ l.length = n ∧ n ≤ s'.i + 1 ∧ R = shapeLoopP L f' s' l ∧ PM base P TA tc L s' wr ∧ Own wr w.heap.size 3 A cap (l.map I64) ∧ KT base w wr ∧ L.length - s'.i + 1 ≤ f'
set_option maxRecDepth 100000 in
set_option maxHeartbeats 4000000 in
theorem shape_pm (f : Nat) (w : World) (h : PM base P TA tc L s w) (hf : L.length + 1 ≤ f) :
    Calls Tryz.prog 59 #[PP P] w fun e w' => ∃ A c, e = .returned (.slice A (shapeP L f s).2.length c) ∧ PM base P TA tc L (shapeP L f s).1 w' ∧ KT base w w' := by
  have hbl := h.base_le
  have HW := want_pm w h tBra
  obtain ⟨s1, hs1⟩ : ∃ s1, wantP L s tBra = s1 := ⟨_, rfl⟩
  rw [hs1] at HW
  have HW := Lib.hid HW
  cases hq : isP L s1 tKet with
  | true =>
    have HR := Lib.hid (show shapeP L f s = (advP s1, []) from by unfold shapeP; rw [hs1]; dsimp only; rw [hq]; rfl)
    have HQ := Lib.hid hq
    clear hq hs1 h
    go_enter Tryz.func59, Tryz.ntmps59
    go_wp2_with fail
    refine HW.out.mono ?_
    rintro e w1 ⟨⟨v, rfl⟩, h9, k9⟩
    have H1 := Lib.hid h9
    have K1 := Lib.hid k9
    clear h9 k9
    go_wp2_with fail
    refine (take_yes w1 H1.out tKet HQ.out).mono ?_
    rintro e w2 ⟨rfl, h9, k9⟩
    have H2 := Lib.hid h9
    have K2 := Lib.hid (K1.out.trans k9)
    clear h9 k9
    go_wp2
    go_ret
    exact ⟨none, 0, by rw [HR.out]; rfl, by rw [HR.out]; exact H2.out, K2.out⟩
  | false =>
    obtain ⟨sn, vn, hn⟩ : ∃ sn vn, numberP L s1 = (sn, vn) := ⟨_, _, rfl⟩
    obtain ⟨R, hR⟩ : ∃ R, R = shapeLoopP L f sn [vn] := ⟨_, rfl⟩
    have hRR : shapeP L f s = R := by unfold shapeP; rw [hs1, hR]; dsimp only; rw [hq, hn]; rfl
    rw [hRR]
    have HR := Lib.hid hR
    have HQ := Lib.hid hq
    have HN := Lib.hid hn
    clear hR hRR hq hn hs1 h
    go_enter Tryz.func59, Tryz.ntmps59
    go_wp2_with fail
    refine HW.out.mono ?_
    rintro e w1 ⟨⟨v, rfl⟩, h9, k9⟩
    have H1 := Lib.hid h9
    have K1 := Lib.hid k9
    clear h9 k9
    go_wp2_with fail
    refine (take_no w1 H1.out tKet HQ.out).mono ?_
    rintro e w2 ⟨rfl, h9, k9⟩
    have H2 := Lib.hid h9
    have K2 := Lib.hid (K1.out.trans k9)
    have HNU := number_pm w2 h9
    rw [HN.out] at HNU
    have HNU := Lib.hid HNU
    clear h9 k9
    go_wp2_with fail
    refine HNU.out.mono ?_
    rintro e w3 ⟨rfl, h9, k9⟩
    have H3 := Lib.hid h9
    have K3 := Lib.hid (K2.out.trans k9)
    clear h9 k9
    go_wp2
    obtain ⟨w4, hw4⟩ : ∃ w4, w4 = w3.alloc (.cells #[I64 vn] 3) := ⟨_, rfl⟩
    have HO4 := Lib.hid (show Own w4 w.heap.size 3 (some ⟨w3.heap.size, 0, none⟩) 1 ([vn].map I64) from by rw [hw4]; exact Own.full w3 3 [I64 vn] K3.out.size (by simp [maxLen]))
    have H4 := Lib.hid (show PM base P TA tc L sn w4 from by rw [hw4]; exact H3.out.below (one_new w3 _))
    have K4 := Lib.hid (show KT base w w4 from by rw [hw4]; exact K3.out.trans (KT.below (one_new w3 _)))
    have HW4 : Hid (w3.alloc (.cells #[.int .i64 (vn : Int)] 3) = w4) := hw4.symm
    rw [HW4.out]
    clear hw4
    go_loopw [3] (fun av wr => ShapeRel base P TA tc L w R av wr) (fun av wr => L.length - curI P wr)
    case atStart => exact ⟨f, sn, [vn], _, 1, 1, rfl, rfl, by omega, HR.out, H4.out, HO4.out, K4.out, by omega⟩
    case round =>
      obtain ⟨f', s', l, A, cap, n, rfl, hl, hns, hr, hp, ho, hk, hnf⟩ := hrel
      obtain ⟨f', rfl⟩ : ∃ g, f' = g + 1 := ⟨f' - 1, by omega⟩
      have hcur := Lib.hid hp.cur
      obtain ⟨he1, he2, he3, _⟩ := hp.el
      have HP := Lib.hid hp
      have HK := Lib.hid hk
      have HO := Lib.hid ho
      have HLL := Lib.hid hl
      have HRR := Lib.hid hr
      clear hp hk hr ho hl
      cases hq0 : isP L s' tComma with
      | true =>
        have hlt := isP_lt hq0
        have g2 := G.number (L := L) (advP s')
        obtain ⟨sb, vb, hB⟩ : ∃ sb vb, numberP L (advP s') = (sb, vb) := ⟨_, _, rfl⟩
        rw [hB] at g2
        have h3 : s'.i + 1 ≤ sb.i := g2.hi
        have HX := Lib.hid (show R = shapeLoopP L f' sb (l ++ [vb]) from by rw [HRR.out, shapeLoopP]; simp only [hq0, hB]; rfl)
        have HQ0 := Lib.hid hq0
        have HB := Lib.hid hB
        clear g2 hB hq0
        go_wp2_with fail
        refine (take_yes wr HP.out tComma HQ0.out).mono ?_
        rintro e w5 ⟨rfl, h9, k9⟩
        have H5 := Lib.hid h9
        have K5 := Lib.hid (HK.out.trans k9)
        have HO5 := Lib.hid (own_kt (base := base) HO.out k9)
        have HNU5 := number_pm w5 h9
        rw [HB.out] at HNU5
        have HNU5 := Lib.hid HNU5
        clear h9 k9
        go_wp2_with fail
        refine HNU5.out.mono ?_
        rintro e w8 ⟨rfl, h9, k9⟩
        have H8 := Lib.hid h9
        have K8 := Lib.hid (K5.out.trans k9)
        have HO8 := Lib.hid (own_kt (base := base) HO5.out k9)
        clear h9 k9
        have HWS := Lib.hid K8.out.size
        have HO9 := Lib.hid (own_kt (base := base) HO8.out (KT.below (one_new w8 (.cells #[I64 vb] 3))))
        have H89 := Lib.hid (H8.out.below (one_new w8 (.cells #[I64 vb] 3)))
        have K89 := Lib.hid (K8.out.trans (KT.below (one_new w8 (.cells #[I64 vb] 3))))
        go_wp2_with (at_builtin; (refine appI rfl (.tmp 13) (.tmp 16) rfl w.heap.size A cap l n HLL.out rfl HO9.out w8.heap.size rfl vb (heap_alloc_new _ _) (by omega) (by have := HWS.out; simp; omega) ?_); intro A' cap' w9 ho9 hg9; have H9 := Lib.hid (pm_grown H89.out HO9.out hbl hg9); have K9 := Lib.hid (kt_new K89.out hg9 (fun k hk => (HO9.out.lt k hk).1)); have HOO := Lib.hid ho9; clear ho9 hg9)
        refine ⟨⟨f', sb, l ++ [vb], A', cap', n + 1, rfl, by rw [List.length_append, HLL.out]; rfl, by omega, HX.out, H9.out, HOO.out, K9.out, by omega⟩, ?_⟩
        have e1 := H9.out.cur
        have e2 := hcur.out
        have e3 := H9.out.el
        simp only [e1, e2]
        omega
      | false =>
        have HX := Lib.hid (show R = (wantP L s' tKet, l) from by rw [HRR.out, shapeLoopP]; simp only [hq0]; rfl)
        have HQ0 := Lib.hid hq0
        clear hq0
        go_wp2_with fail
        refine (take_no wr HP.out tComma HQ0.out).mono ?_
        rintro e w5 ⟨rfl, h9, k9⟩
        have H5 := Lib.hid h9
        have K5 := Lib.hid (HK.out.trans k9)
        clear h9 k9
        go_wp2_with fail
        refine (want_pm w5 H5.out tKet).mono ?_
        rintro e w6 ⟨⟨v, rfl⟩, h9, k9⟩
        have H6 := Lib.hid h9
        have K6 := Lib.hid (K5.out.trans k9)
        clear h9 k9
        go_wp2
        go_ret
        rw [HX.out]
        exact ⟨A, cap, by rw [HLL.out]; rfl, H6.out, K6.out⟩
end
end Go.Proofs.YtcefclglmhpdeaaGreatDoor
