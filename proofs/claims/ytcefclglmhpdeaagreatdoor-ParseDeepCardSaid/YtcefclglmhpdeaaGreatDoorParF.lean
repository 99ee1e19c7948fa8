/-
  Walks of the parser's levels: sign, post.
-/
import Derived.Test.YtcefclglmhpdeaaGreatDoorParE
namespace Go.Proofs.YtcefclglmhpdeaaGreatDoor
set_option linter.unusedVariables false
set_option linter.unusedSimpArgs false
open Go.RowKit
attribute [local go_sem ↓] tok_field3 tok_field0
section
variable {base P tc : Nat} {TA : Option Addr} {L : List Tok} {s : PS}
theorem sink_pm (w : World) (h : PM base P TA tc L s w) {b : Bool} {s' : PS} (hq : sinkP L s = (s', b)) :
    Calls Tryz.prog 104 #[PP P] w fun e w' => e = .returned (.bool b) ∧ PM base P TA tc L s' w' ∧ KT base w w' := by
  obtain ⟨_, _, _, _, _, h⟩ := h
  have := sink_any w h
  rw [hq] at this
  exact this
theorem riseP_eq (s : PS) : riseP s = { s with deep := s.deep - 1 } := rfl
def PostRel (base P : Nat) (TA : Option Addr) (tc : Nat) (L : List Tok) (f : Nat) (w : World) (R : PS × Nat) (av : Value) (wr : World) : Prop :=
  ∃ (f' : Nat) (s' : PS) (a' : Nat), f' ≤ f ∧ R = postLoopP L f' s' a' ∧ av = .int .i64 a' ∧ PM base P TA tc L s' wr ∧ KT base w wr ∧ 12 * (L.length - s'.i) + 1 ≤ f'
set_option maxRecDepth 100000 in
set_option maxHeartbeats 4000000 in
theorem post_step (f : Nat) (ih : ∀ f', f' ≤ f → AllW base P TA tc L f') (w : World) (s : PS) (h : PM base P TA tc L s w) (hf : 12 * (L.length - s.i) + 2 ≤ f + 1) :
    Calls Tryz.prog 103 #[PP P] w (LevOut base P TA tc L w (postP L (f + 1) s)) := by
  have HS := Lib.hid ((ih f (Nat.le_refl _)).atom w s h (by omega))
  have g1 := (allG L f).atom s
  obtain ⟨sa, va, hA⟩ : ∃ sa va, atomP L f s = (sa, va) := ⟨_, _, rfl⟩
  rw [hA] at HS g1
  obtain ⟨R, hR⟩ : ∃ R, R = postLoopP L f sa va := ⟨_, rfl⟩
  have hRR : postP L (f + 1) s = R := by rw [postP, hA, hR]
  rw [hRR]
  have HR := Lib.hid hR
  have hi1 : s.i ≤ sa.i := g1.hi
  have hla := h.el
  have HFA := Lib.hid (show 12 * (L.length - sa.i) + 1 ≤ f by omega)
  clear ih hA hR hRR h g1 hi1
  go_enter Tryz.func103, Tryz.ntmps103
  go_wp2_with fail
  refine HS.out.mono ?_
  rintro e w1 ⟨rfl, h1, k1⟩
  have H1 := Lib.hid h1
  have K1 := Lib.hid k1
  clear h1 k1
  go_wp2
  go_loopw [3] (fun av wr => PostRel base P TA tc L f w R av wr) (fun av wr => L.length - curI P wr)
  case atStart => exact ⟨f, sa, va, Nat.le_refl _, HR.out, rfl, H1.out, K1.out, HFA.out⟩
  case round =>
    obtain ⟨f', s', a', hf', hr, rfl, hp, hk, hn⟩ := hrel
    obtain ⟨f', rfl⟩ : ∃ g, f' = g + 1 := ⟨f' - 1, by omega⟩
    have hcur := Lib.hid hp.cur
    obtain ⟨he1, he2, he3, _⟩ := hp.el
    obtain ⟨kd, tx, nm, ps, hnow⟩ : ∃ kd tx nm ps, nowP L s' = ⟨kd, tx, nm, ps⟩ := ⟨_, _, _, _, rfl⟩
    have HNOW := Lib.hid hnow
    have HP := Lib.hid hp
    have HK := Lib.hid hk
    have HRR := Lib.hid hr
    clear hp hk hnow hr
    cases hq0 : isP L s' tShift with
    | true =>
      have hlt := isP_lt hq0
      have g2 := G.number (L := L) (advP s')
      obtain ⟨sb, vb, hB⟩ : ∃ sb vb, numberP L (advP s') = (sb, vb) := ⟨_, _, rfl⟩
      rw [hB] at g2
      have h2 := g2.he
      have h3 := g2.hi
      have h4 : (advP s').i = s'.i + 1 := rfl
      have h5 : (advP s').es = s'.es := rfl
      simp only [h4, h5] at h2 h3
      have hbig : sb.es.length + 1 ≤ sb.i := by omega
      have hvb : vb ≤ 1048576 := by
        have e : vb = (numberP L (advP s')).2 := by rw [hB]
        rw [e]
        unfold numberP
        split
        · exact Nat.zero_le _
        · rename_i hh
          simp only [Bool.or_eq_true, not_or, decide_eq_true_eq] at hh
          show (nowP L (advP s')).num ≤ 1048576
          omega
      obtain ⟨sc, vc, hC⟩ : ∃ sc vc, putP sb ⟨9, noB, vb, [a'], ps⟩ = (sc, vc) := ⟨_, _, rfl⟩
      have hci : sc.i = sb.i := by
        have e : sc = (putP sb ⟨9, noB, vb, [a'], ps⟩).1 := by rw [hC]
        rw [e]; unfold putP; split <;> rfl
      have HX := Lib.hid (show R = postLoopP L f' sc vc from by rw [HRR.out, postLoopP]; simp only [hq0, hB, HNOW.out, hC]; rfl)
      have HQ := Lib.hid hq0
      have HB := Lib.hid hB
      have HBIG := Lib.hid hbig
      have HC := Lib.hid hC
      have cv : IntKind.u64.wrap (vb : Int) = (vb : Int) := by
        unfold IntKind.wrap
        simp [IntKind.bits, IntKind.signed]
        omega
      clear h2 h4 h5 g2 hB hbig hC hq0
      go_wp2_with fail
      refine (now_pm wr HP.out HNOW.out).mono ?_
      rintro e w2 ⟨rfl, h9, k9, _⟩
      have H2 := Lib.hid h9
      have K2 := Lib.hid (HK.out.trans k9)
      clear h9 k9
      go_wp2_with fail
      refine (take_yes _ H2.out tShift HQ.out).mono ?_
      rintro e w3 ⟨rfl, h9, k9⟩
      have H3 := Lib.hid h9
      have K3 := Lib.hid (K2.out.trans k9)
      clear h9 k9
      have HNU := number_pm w3 H3.out
      rw [HB.out] at HNU
      go_wp2_with fail
      refine HNU.mono ?_
      clear HNU
      rintro e w4 ⟨rfl, h4, k4⟩
      have H4 := Lib.hid h4
      have K4 := Lib.hid (K3.out.trans k4)
      clear h4 k4
      go_wp2_with fail
      have HPU := put_pm _ (H4.out.below (one_new w4 _)) ⟨9, noB, vb, [a'], ps⟩ _ (args1 w4 a') HBIG.out
      rw [HC.out] at HPU
      refine HPU.mono ?_
      clear HPU
      rintro e w5 ⟨rfl, h5, k5⟩
      have H5 := Lib.hid h5
      have K5 := Lib.hid ((K4.out.trans (KT.below (one_new w4 _))).trans k5)
      clear h5 k5
      go_wp2
      refine ⟨⟨f', sc, vc, by omega, HX.out, rfl, H5.out, K5.out, by rw [hci]; omega⟩, ?_⟩
      have e1 := H5.out.cur
      have e2 := hcur.out
      have e3 := H5.out.el
      simp only [e1, e2]
      omega
    | false =>
      have HX := Lib.hid (show R = (s', a') from by rw [HRR.out, postLoopP]; simp only [hq0]; rfl)
      have HQ := Lib.hid hq0
      clear hq0
      go_wp2_with fail
      refine (now_pm wr HP.out HNOW.out).mono ?_
      rintro e w2 ⟨rfl, h9, k9, _⟩
      have H2 := Lib.hid h9
      have K2 := Lib.hid (HK.out.trans k9)
      clear h9 k9
      go_wp2_with fail
      refine (take_no _ H2.out tShift HQ.out).mono ?_
      rintro e w3 ⟨rfl, h9, k9⟩
      have H3 := Lib.hid h9
      have K3 := Lib.hid (K2.out.trans k9)
      clear h9 k9
      go_wp2
      go_ret
      rw [HX.out]
      exact ⟨rfl, H3.out, K3.out⟩
theorem PM.adv {w : World} (h : PM base P TA tc L s w) (hi : s.i < L.length) : w.cell? ⟨P, 1, none⟩ = some (.int .i64 s.i) ∧ w.frozen? ⟨P, 1, none⟩ = false ∧ PM base P TA tc L (advP s) (w.setCell ⟨P, 1, none⟩ (.int .i64 ((s.i : Int) + 1))) ∧ KT base w (w.setCell ⟨P, 1, none⟩ (.int .i64 ((s.i : Int) + 1))) := by
  obtain ⟨_, _, _, _, _, h⟩ := h
  exact ⟨h.c1, h.free 1, (h.adv hi).1.pm, (h.adv hi).2⟩
theorem PM.rise {w : World} (h : PM base P TA tc L s w) (hd : 1 ≤ s.deep) : w.cell? ⟨P, 4, none⟩ = some (.int .i64 s.deep) ∧ w.frozen? ⟨P, 4, none⟩ = false ∧ PM base P TA tc L (riseP s) (w.setCell ⟨P, 4, none⟩ (.int .i64 ((s.deep : Int) - 1))) ∧ KT base w (w.setCell ⟨P, 4, none⟩ (.int .i64 ((s.deep : Int) - 1))) := by
  obtain ⟨_, _, _, _, _, h⟩ := h
  have h' := h.deepen (s.deep - 1) (by have := h.dd; omega)
  have e : ((s.deep - 1 : Nat) : Int) = (s.deep : Int) - 1 := by omega
  rw [e] at h'
  exact ⟨h.c4, h.free 4, h'.1.pm, h'.2⟩
set_option maxRecDepth 100000 in
set_option maxHeartbeats 4000000 in
theorem sign_step (f : Nat) (ih : ∀ f', f' ≤ f → AllW base P TA tc L f') (w : World) (s : PS) (h : PM base P TA tc L s w) (hf : 12 * (L.length - s.i) + 3 ≤ f + 1) :
    Calls Tryz.prog 99 #[PP P] w (LevOut base P TA tc L w (signP L (f + 1) s)) := by
  obtain ⟨he1, he2, he3, he4⟩ := h.el
  obtain ⟨kd, tx, nm, ps, hnow⟩ : ∃ kd tx nm ps, nowP L s = ⟨kd, tx, nm, ps⟩ := ⟨_, _, _, _, rfl⟩
  have HNOW := Lib.hid hnow
  have H := Lib.hid h
  have IH := Lib.hid ih
  clear ih h hnow
  cases hq : isP L s tMinus with
  | false =>
    have HR := Lib.hid (show signP L (f + 1) s = postP L f s from by rw [signP]; simp only [hq]; rfl)
    have HQ := Lib.hid hq
    clear hq
    go_enter Tryz.func99, Tryz.ntmps99
    go_wp2_with fail
    refine (now_pm w H.out HNOW.out).mono ?_
    rintro e w2 ⟨rfl, h9, k9, _⟩
    have H2 := Lib.hid h9
    have K2 := Lib.hid (k9)
    clear h9 k9
    go_wp2_with fail
    refine (is_pm _ H2.out tMinus HQ.out).mono ?_
    rintro e w3 ⟨rfl, h9, k9⟩
    have H3 := Lib.hid h9
    have K3 := Lib.hid (K2.out.trans k9)
    clear h9 k9
    go_wp2_with fail
    refine ((IH.out f (Nat.le_refl _)).post w3 s H3.out (by omega)).mono ?_
    rintro e w4 ⟨rfl, h9, k9⟩
    have H4 := Lib.hid h9
    have K4 := Lib.hid (K3.out.trans k9)
    clear h9 k9
    go_wp2
    go_ret
    exact ⟨by rw [HR.out]; rfl, by rw [HR.out]; exact H4.out, K4.out⟩
  | true =>
    have hlt := isP_lt hq
    obtain ⟨sk, bk, hk⟩ : ∃ sk bk, sinkP L s = (sk, bk) := ⟨_, _, rfl⟩
    cases bk with
    | false =>
      have HR := Lib.hid (show signP L (f + 1) s = (sk, 0) from by rw [signP]; simp only [hq, hk]; rfl)
      have HQ := Lib.hid hq
      have HKK := Lib.hid hk
      clear hq hk
      go_enter Tryz.func99, Tryz.ntmps99
      go_wp2_with fail
      refine (now_pm w H.out HNOW.out).mono ?_
      rintro e w2 ⟨rfl, h9, k9, _⟩
      have H2 := Lib.hid h9
      have K2 := Lib.hid (k9)
      clear h9 k9
      go_wp2_with fail
      refine (is_pm _ H2.out tMinus HQ.out).mono ?_
      rintro e w3 ⟨rfl, h9, k9⟩
      have H3 := Lib.hid h9
      have K3 := Lib.hid (K2.out.trans k9)
      clear h9 k9
      go_wp2_with fail
      refine (sink_pm w3 H3.out HKK.out).mono ?_
      rintro e w4 ⟨rfl, h9, k9⟩
      have H4 := Lib.hid h9
      have K4 := Lib.hid (K3.out.trans k9)
      clear h9 k9
      go_wp2
      go_ret
      exact ⟨by rw [HR.out]; rfl, by rw [HR.out]; exact H4.out, K4.out⟩
    | true =>
      obtain ⟨hd1, hd2⟩ := sink_true (show (sinkP L s).2 = true by rw [hk])
      rw [hk] at hd2
      have hsk : sk = { s with deep := s.deep + 1 } := hd2
      have hski : sk.i = s.i := by rw [hsk]
      have hske : sk.es = s.es := by rw [hsk]
      have g2 := (allG L f).sign (advP sk)
      have HB := Lib.hid (fun w' h' => (IH.out f (Nat.le_refl _)).sign w' (advP sk) h' (by show 12 * (L.length - (sk.i + 1)) + 3 ≤ f; omega))
      obtain ⟨sb, vb, hB⟩ : ∃ sb vb, signP L f (advP sk) = (sb, vb) := ⟨_, _, rfl⟩
      rw [hB] at g2 HB
      have h2 := g2.he
      have h3 := g2.hi
      have h4 : (advP sk).i = sk.i + 1 := rfl
      have h5 : (advP sk).es = sk.es := rfl
      have h6 : sb.deep = sk.deep := g2.hd
      have h7 : sk.deep = s.deep + 1 := by rw [hsk]
      simp only [h4, h5, hski, hske] at h2 h3
      have hbig : (riseP sb).es.length + 1 ≤ (riseP sb).i := by show sb.es.length + 1 ≤ sb.i; omega
      obtain ⟨sc, vc, hC⟩ : ∃ sc vc, putP (riseP sb) ⟨3, noB, 0, [vb], ps⟩ = (sc, vc) := ⟨_, _, rfl⟩
      have HR := Lib.hid (show signP L (f + 1) s = (sc, vc) from by rw [signP]; simp only [hq, hk, hB, HNOW.out, hC]; rfl)
      have hskl : sk.i < L.length := by omega
      have hsd : 1 ≤ sb.deep := by omega
      have hsd2 : sb.deep ≤ 32 := by omega
      have HQ := Lib.hid hq
      have HKK := Lib.hid hk
      have HBIG := Lib.hid hbig
      have HC := Lib.hid hC
      clear hq hk hd2 hsk g2 hB h2 h4 h5 h6 h7 hbig hC hd1 hske
      go_enter Tryz.func99, Tryz.ntmps99
      go_wp2_with fail
      refine (now_pm w H.out HNOW.out).mono ?_
      rintro e w2 ⟨rfl, h9, k9, _⟩
      have H2 := Lib.hid h9
      have K2 := Lib.hid (k9)
      clear h9 k9
      go_wp2_with fail
      refine (is_pm _ H2.out tMinus HQ.out).mono ?_
      rintro e w3 ⟨rfl, h9, k9⟩
      have H3 := Lib.hid h9
      have K3 := Lib.hid (K2.out.trans k9)
      clear h9 k9
      go_wp2_with fail
      refine (sink_pm w3 H3.out HKK.out).mono ?_
      rintro e w4 ⟨rfl, h9, k9⟩
      have H4 := Lib.hid h9
      have K4 := Lib.hid (K3.out.trans k9)
      clear h9 k9
      obtain ⟨c1, y1, h5', k5'⟩ := H4.out.adv hskl
      rw [hski] at c1 h5' k5'
      have H5 := Lib.hid h5'
      have K5 := Lib.hid (K4.out.trans k5')
      clear h5' k5'
      go_wp2_with fail
      refine (HB.out _ H5.out).mono ?_
      rintro e w6 ⟨rfl, h9, k9⟩
      have H6 := Lib.hid h9
      have K6 := Lib.hid (K5.out.trans k9)
      clear h9 k9
      clear c1 y1
      obtain ⟨c4, y4, h7', k7'⟩ := H6.out.rise hsd
      have H7 := Lib.hid h7'
      have K7 := Lib.hid (K6.out.trans k7')
      clear h7' k7'
      go_wp2_with fail
      obtain ⟨w8, hw8⟩ : ∃ w8, w8 = w6.setCell ⟨P, 4, none⟩ (.int .i64 ((sb.deep : Int) - 1)) := ⟨_, rfl⟩
      rw [← hw8] at H7 K7
      have HPU := put_pm _ (H7.out.below (one_new w8 _)) ⟨3, noB, 0, [vb], ps⟩ _ (args1 w8 vb) HBIG.out
      rw [HC.out] at HPU
      have e8 : w8.heap.size = w6.heap.size := by rw [hw8]; simp [World.setCell]
      rw [e8, hw8] at HPU
      refine HPU.mono ?_
      clear HPU
      rintro e w9 ⟨rfl, h9, k9⟩
      have H9 := Lib.hid h9
      have K9 := Lib.hid ((K7.out.trans (KT.below (one_new w8 _))).trans (by rw [hw8]; exact k9))
      clear h9 k9
      go_wp2
      go_ret
      exact ⟨by rw [HR.out]; rfl, by rw [HR.out]; exact H9.out, K9.out⟩
end
end Go.Proofs.YtcefclglmhpdeaaGreatDoor
