/-
  Walks of the parser's levels: expr, sum, prod.
-/
import Derived.Test.YtcefclglmhpdeaaGreatDoorParC
namespace Go.Proofs.YtcefclglmhpdeaaGreatDoor
set_option linter.unusedVariables false
set_option linter.unusedSimpArgs false
open Go.RowKit
attribute [local go_sem ↓] tok_field3 tok_field0
/-- What a level answers. -/
def LevOut (base P : Nat) (TA : Option Addr) (tc : Nat) (L : List Tok) (w : World) (r : PS × Nat) (e : Ending) (w' : World) : Prop := e = .returned (.int .i64 (r.2 : Nat)) ∧ PM base P TA tc L r.1 w' ∧ KT base w w'
/-- The levels' contracts at so much fuel. -/
structure AllW (base P : Nat) (TA : Option Addr) (tc : Nat) (L : List Tok) (f : Nat) : Prop where
  expr : ∀ w s, PM base P TA tc L s w → 12 * (L.length - s.i) + 6 ≤ f → Calls Tryz.prog 61 #[PP P] w (LevOut base P TA tc L w (exprP L f s))
  sum : ∀ w s, PM base P TA tc L s w → 12 * (L.length - s.i) + 5 ≤ f → Calls Tryz.prog 78 #[PP P] w (LevOut base P TA tc L w (sumP L f s))
  prod : ∀ w s, PM base P TA tc L s w → 12 * (L.length - s.i) + 4 ≤ f → Calls Tryz.prog 91 #[PP P] w (LevOut base P TA tc L w (prodP L f s))
  sign : ∀ w s, PM base P TA tc L s w → 12 * (L.length - s.i) + 3 ≤ f → Calls Tryz.prog 99 #[PP P] w (LevOut base P TA tc L w (signP L f s))
  post : ∀ w s, PM base P TA tc L s w → 12 * (L.length - s.i) + 2 ≤ f → Calls Tryz.prog 103 #[PP P] w (LevOut base P TA tc L w (postP L f s))
  atom : ∀ w s, PM base P TA tc L s w → 12 * (L.length - s.i) + 1 ≤ f → Calls Tryz.prog 106 #[PP P] w (LevOut base P TA tc L w (atomP L f s))
section
variable {base P tc : Nat} {TA : Option Addr} {L : List Tok} {s : PS}
theorem PM.el {w : World} (h : PM base P TA tc L s w) : s.es.length ≤ s.i ∧ s.i ≤ L.length ∧ L.length ≤ 1000 ∧ s.deep ≤ 32 := by
  obtain ⟨_, _, _, _, _, h⟩ := h
  exact ⟨h.el, h.ii, h.len, h.dd⟩
theorem PM.below {w w' : World} (h : PM base P TA tc L s w) (hb : Below w.heap.size w w') : PM base P TA tc L s w' := by
  obtain ⟨_, _, _, _, _, h⟩ := h
  exact (h.below hb).pm
theorem now_pm (w : World) (h : PM base P TA tc L s w) {kd nm ps : Nat} {tx : ByteArray} (ht : nowP L s = ⟨kd, tx, nm, ps⟩) :
    Calls Tryz.prog 32 #[PP P] w fun e w' => e = .returned (.agg #[.int .i64 kd, .string tx, .int .u64 nm, .int .i64 ps]) ∧ PM base P TA tc L s w' ∧ KT base w w' ∧ Below w.heap.size w w' := by
  obtain ⟨_, _, _, _, _, h⟩ := h
  exact (now_at w h ht).mono fun e w' ⟨he, hb⟩ => ⟨he, (h.below hb).pm, KT.below hb, hb⟩
theorem is_pm (w : World) (h : PM base P TA tc L s w) (t : ByteArray) {b : Bool} (hq : isP L s t = b) :
    Calls Tryz.prog 77 #[PP P, .string t] w fun e w' => e = .returned (.bool b) ∧ PM base P TA tc L s w' ∧ KT base w w' := by
  obtain ⟨_, _, _, _, _, h⟩ := h
  subst hq
  exact (is_any w h t).mono fun e w' ⟨he, hb⟩ => ⟨he, (h.below hb).pm, KT.below hb⟩
theorem take_yes (w : World) (h : PM base P TA tc L s w) (t : ByteArray) (hq : isP L s t = true) :
    Calls Tryz.prog 56 #[PP P, .string t] w fun e w' => e = .returned (.bool true) ∧ PM base P TA tc L (advP s) w' ∧ KT base w w' := by
  obtain ⟨_, _, _, _, _, h⟩ := h
  have := take_any w h t
  rw [hq] at this
  exact this
theorem take_no (w : World) (h : PM base P TA tc L s w) (t : ByteArray) (hq : isP L s t = false) :
    Calls Tryz.prog 56 #[PP P, .string t] w fun e w' => e = .returned (.bool false) ∧ PM base P TA tc L s w' ∧ KT base w w' := by
  obtain ⟨_, _, _, _, _, h⟩ := h
  have := take_any w h t
  rw [hq] at this
  exact this
theorem want_pm (w : World) (h : PM base P TA tc L s w) (t : ByteArray) :
    Calls Tryz.prog 60 #[PP P, .string t] w fun e w' => (∃ v, e = .returned v) ∧ PM base P TA tc L (wantP L s t) w' ∧ KT base w w' := by
  obtain ⟨_, _, _, _, _, h⟩ := h
  exact want_any w h t
theorem fail_pm (w : World) (h : PM base P TA tc L s w) (c : Nat) :
    Calls Tryz.prog 55 #[PP P, .int .i64 c] w fun e w' => (∃ v, e = .returned v) ∧ PM base P TA tc L (failP L s c) w' ∧ KT base w w' := by
  obtain ⟨_, _, _, _, _, h⟩ := h
  exact fail_any w h c
theorem number_pm (w : World) (h : PM base P TA tc L s w) :
    Calls Tryz.prog 57 #[PP P] w (LevOut base P TA tc L w (numberP L s)) := by
  obtain ⟨_, _, _, _, _, h⟩ := h
  exact number_any' w h
theorem put_pm (w : World) (h : PM base P TA tc L s w) (e : Ex) (v : Value) (hv : ArgsV w v e.args) (he : s.es.length + 1 ≤ s.i) :
    Calls Tryz.prog 79 #[PP P, .agg #[.int .i64 e.kind, .string e.name, .int .u64 e.num, v, .int .i64 e.pos]] w (LevOut base P TA tc L w (putP s e)) := by
  obtain ⟨_, _, _, _, _, h⟩ := h
  exact put_any w h e v hv he
theorem args2 (w : World) (a b : Nat) : ArgsV (w.alloc (.cells #[.int .i64 a, .int .i64 b] 3)) (.slice (some ⟨w.heap.size, 0, none⟩) 2 2) [a, b] :=
  ⟨some ⟨w.heap.size, 0, none⟩, 2, rfl⟩
theorem args1 (w : World) (a : Nat) : ArgsV (w.alloc (.cells #[.int .i64 a] 3)) (.slice (some ⟨w.heap.size, 0, none⟩) 1 1) [a] :=
  ⟨some ⟨w.heap.size, 0, none⟩, 1, rfl⟩
theorem one_new (w : World) (o : Obj) : Below w.heap.size w (w.alloc o) := (Below.refl _ _).alloc (Nat.le_refl _) o
/-- Where the parser stands, as memory says it. -/
def curI (P : Nat) (w : World) : Nat := match w.cell? ⟨P, 1, none⟩ with | some v => (intOf v).toNat | none => 0
theorem PM.cur {w : World} (h : PM base P TA tc L s w) : curI P w = s.i := by
  obtain ⟨_, _, _, _, _, h⟩ := h
  unfold curI
  rw [h.c1]
  simp [intOf]
set_option maxRecDepth 100000 in
set_option maxHeartbeats 4000000 in
theorem expr_step (f : Nat) (ih : ∀ f', f' ≤ f → AllW base P TA tc L f') (w : World) (s : PS) (h : PM base P TA tc L s w) (hf : 12 * (L.length - s.i) + 6 ≤ f + 1) :
    Calls Tryz.prog 61 #[PP P] w (LevOut base P TA tc L w (exprP L (f + 1) s)) := by
  have HS := Lib.hid ((ih f (Nat.le_refl _)).sum w s h (by omega))
  have g1 := (allG L f).sum s
  have hel := h.el
  obtain ⟨sa, va, hA⟩ : ∃ sa va, sumP L f s = (sa, va) := ⟨_, _, rfl⟩
  rw [hA] at HS g1
  obtain ⟨kd, tx, nm, ps, hnow⟩ : ∃ kd tx nm ps, nowP L sa = ⟨kd, tx, nm, ps⟩ := ⟨_, _, _, _, rfl⟩
  have HNOW := Lib.hid hnow
  have IH := Lib.hid ih
  have HG1 := Lib.hid g1
  cases hq : isP L sa tLess with
  | false =>
    have HR := Lib.hid (show exprP L (f + 1) s = (sa, va) from by rw [exprP, hA]; simp only [hq]; rfl)
    have HQ := Lib.hid hq
    clear ih hA hnow hq h g1
    go_enter Tryz.func61, Tryz.ntmps61
    go_wp2_with fail
    refine HS.out.mono ?_
    rintro e w1 ⟨rfl, h1, k1⟩
    have H1 := Lib.hid h1
    have K1 := Lib.hid k1
    clear h1 k1
    go_wp2_with fail
    refine (now_pm w1 H1.out HNOW.out).mono ?_
    rintro e w2 ⟨rfl, h2, k2, _⟩
    have H2 := Lib.hid h2
    have K2 := Lib.hid (K1.out.trans k2)
    clear h2 k2
    go_wp2_with fail
    refine (take_no w2 H2.out tLess HQ.out).mono ?_
    rintro e w3 ⟨rfl, h3, k3⟩
    have H3 := Lib.hid h3
    have K3 := Lib.hid (K2.out.trans k3)
    clear h3 k3
    go_wp2
    go_ret
    exact ⟨by rw [HR.out]; rfl, by rw [HR.out]; exact H3.out, K3.out⟩
  | true =>
    have hlt := isP_lt hq
    have hi1 : s.i ≤ sa.i := g1.hi
    have HB := Lib.hid (fun w' h' => (ih f (Nat.le_refl _)).sum w' (advP sa) h' (by show 12 * (L.length - (sa.i + 1)) + 5 ≤ f; omega))
    have g2 := (allG L f).sum (advP sa)
    obtain ⟨sb, vb, hB⟩ : ∃ sb vb, sumP L f (advP sa) = (sb, vb) := ⟨_, _, rfl⟩
    rw [hB] at HB g2
    have hbig : sb.es.length + 1 ≤ sb.i := by
      have h1 : sa.es.length + s.i + 0 ≤ s.es.length + sa.i := g1.he
      have h2 := g2.he
      have h3 := g2.hi
      have h4 : (advP sa).i = sa.i + 1 := rfl
      have h5 : (advP sa).es = sa.es := rfl
      simp only [h4, h5] at h2 h3
      omega
    have HR := Lib.hid (show exprP L (f + 1) s = putP sb ⟨8, noB, 0, [va, vb], ps⟩ from by rw [exprP, hA]; simp only [hq, hB, hnow]; rfl)
    have HQ := Lib.hid hq
    have HBIG := Lib.hid hbig
    clear ih hA hnow hq h g1 g2 hB hbig hlt hi1
    go_enter Tryz.func61, Tryz.ntmps61
    go_wp2_with fail
    refine HS.out.mono ?_
    rintro e w1 ⟨rfl, h1, k1⟩
    have H1 := Lib.hid h1
    have K1 := Lib.hid k1
    clear h1 k1
    go_wp2_with fail
    refine (now_pm w1 H1.out HNOW.out).mono ?_
    rintro e w2 ⟨rfl, h2, k2, _⟩
    have H2 := Lib.hid h2
    have K2 := Lib.hid (K1.out.trans k2)
    clear h2 k2
    go_wp2_with fail
    refine (take_yes w2 H2.out tLess HQ.out).mono ?_
    rintro e w3 ⟨rfl, h3, k3⟩
    have H3 := Lib.hid h3
    have K3 := Lib.hid (K2.out.trans k3)
    clear h3 k3
    go_wp2_with fail
    refine (HB.out w3 H3.out).mono ?_
    rintro e w4 ⟨rfl, h4, k4⟩
    have H4 := Lib.hid h4
    have K4 := Lib.hid (K3.out.trans k4)
    clear h4 k4
    go_wp2_with fail
    refine (put_pm _ (H4.out.below (one_new w4 _)) ⟨8, noB, 0, [va, vb], ps⟩ _ (args2 w4 va vb) HBIG.out).mono ?_
    rintro e w5 ⟨rfl, h5, k5⟩
    have H5 := Lib.hid h5
    have K5 := Lib.hid ((K4.out.trans (KT.below (one_new w4 _))).trans k5)
    clear h5 k5
    go_wp2
    go_ret
    exact ⟨by rw [HR.out]; rfl, by rw [HR.out]; exact H5.out, K5.out⟩
def SumRel (base P : Nat) (TA : Option Addr) (tc : Nat) (L : List Tok) (f : Nat) (w : World) (R : PS × Nat) (av : Value) (wr : World) : Prop :=
  ∃ (f' : Nat) (s' : PS) (a' : Nat), f' ≤ f ∧ R = sumLoopP L f' s' a' ∧ av = .int .i64 a' ∧ PM base P TA tc L s' wr ∧ KT base w wr ∧ 12 * (L.length - s'.i) + 1 ≤ f'
set_option maxRecDepth 100000 in
set_option maxHeartbeats 4000000 in
theorem sum_step (f : Nat) (ih : ∀ f', f' ≤ f → AllW base P TA tc L f') (w : World) (s : PS) (h : PM base P TA tc L s w) (hf : 12 * (L.length - s.i) + 5 ≤ f + 1) :
    Calls Tryz.prog 78 #[PP P] w (LevOut base P TA tc L w (sumP L (f + 1) s)) := by
  have HS := Lib.hid ((ih f (Nat.le_refl _)).prod w s h (by omega))
  have g1 := (allG L f).prod s
  obtain ⟨sa, va, hA⟩ : ∃ sa va, prodP L f s = (sa, va) := ⟨_, _, rfl⟩
  rw [hA] at HS g1
  obtain ⟨R, hR⟩ : ∃ R, R = sumLoopP L f sa va := ⟨_, rfl⟩
  have hRR : sumP L (f + 1) s = R := by rw [sumP, hA, hR]
  rw [hRR]
  have HR := Lib.hid hR
  have hi1 : s.i ≤ sa.i := g1.hi
  have hla := h.el
  have IH := Lib.hid ih
  have hfa : 12 * (L.length - sa.i) + 1 ≤ f := by omega
  have HFA := Lib.hid hfa
  clear ih hA hR hRR h g1 hi1 hfa
  go_enter Tryz.func78, Tryz.ntmps78
  go_wp2_with fail
  refine HS.out.mono ?_
  rintro e w1 ⟨rfl, h1, k1⟩
  have H1 := Lib.hid h1
  have K1 := Lib.hid k1
  clear h1 k1
  go_wp2
  go_loopw [3] (fun av wr => SumRel base P TA tc L f w R av wr) (fun av wr => L.length - curI P wr)
  case atStart => exact ⟨f, sa, va, Nat.le_refl _, HR.out, rfl, H1.out, K1.out, HFA.out⟩
  case round =>
    obtain ⟨f', s', a', hf', hr, rfl, hp, hk, hn⟩ := hrel
    obtain ⟨f', rfl⟩ : ∃ g, f' = g + 1 := ⟨f' - 1, by omega⟩
    have hcur := Lib.hid hp.cur
    obtain ⟨he1, he2, he3, _⟩ := hp.el
    obtain ⟨kd, tx, nm, ps, hnow⟩ : ∃ kd tx nm ps, nowP L s' = ⟨kd, tx, nm, ps⟩ := ⟨_, _, _, _, rfl⟩
    have HNOW := Lib.hid hnow
    have HP := Lib.hid hp
    have HK := Lib.hid hk
    have HRR := Lib.hid hr
    clear hp hk hnow hr
    cases hq0 : isP L s' tPlus with
    | true =>
      have hlt := isP_lt hq0
      have HB := Lib.hid (fun w' h' => (IH.out f' (by omega)).prod w' (advP s') h' (by show 12 * (L.length - (s'.i + 1)) + 4 ≤ f'; omega))
      have g2 := (allG L f').prod (advP s')
      obtain ⟨sb, vb, hB⟩ : ∃ sb vb, prodP L f' (advP s') = (sb, vb) := ⟨_, _, rfl⟩
      rw [hB] at HB g2
      have h2 := g2.he
      have h3 := g2.hi
      have h4 : (advP s').i = s'.i + 1 := rfl
      have h5 : (advP s').es = s'.es := rfl
      simp only [h4, h5] at h2 h3
      have hbig : sb.es.length + 1 ≤ sb.i := by omega
      obtain ⟨sc, vc, hC⟩ : ∃ sc vc, putP sb ⟨4, noB, 0, [a', vb], ps⟩ = (sc, vc) := ⟨_, _, rfl⟩
      have hci : sc.i = sb.i := by
        have e : sc = (putP sb ⟨4, noB, 0, [a', vb], ps⟩).1 := by rw [hC]
        rw [e]; unfold putP; split <;> rfl
      have HX := Lib.hid (show R = sumLoopP L f' sc vc from by rw [HRR.out, sumLoopP]; simp only [hq0, hB, HNOW.out, hC]; rfl)
      have HQ := Lib.hid hq0
      have HBIG := Lib.hid hbig
      have HC := Lib.hid hC
      clear h2 h4 h5 g2 hB hbig hC hq0
      go_wp2_with fail
      refine (now_pm wr HP.out HNOW.out).mono ?_
      rintro e w2 ⟨rfl, h2, k2, _⟩
      have H2 := Lib.hid h2
      have K2 := Lib.hid (HK.out.trans k2)
      clear h2 k2
      go_wp2_with fail
      refine (take_yes _ H2.out tPlus HQ.out).mono ?_
      rintro e w3 ⟨rfl, h3', k3⟩
      have H3 := Lib.hid h3'
      have K3 := Lib.hid (K2.out.trans k3)
      clear h3' k3
      go_wp2_with fail
      refine (HB.out w3 H3.out).mono ?_
      rintro e w4 ⟨rfl, h4, k4⟩
      have H4 := Lib.hid h4
      have K4 := Lib.hid (K3.out.trans k4)
      clear h4 k4
      go_wp2_with fail
      have HPU := put_pm _ (H4.out.below (one_new w4 _)) ⟨4, noB, 0, [a', vb], ps⟩ _ (args2 w4 a' vb) HBIG.out
      rw [HC.out] at HPU
      refine HPU.mono ?_
      clear HPU
      rintro e w5 ⟨rfl, h5, k5⟩
      have H5 := Lib.hid h5
      have K5 := Lib.hid ((K4.out.trans (KT.below (one_new w4 _))).trans k5)
      clear h5 k5
      go_wp2
      refine ⟨⟨f', sc, vc, by omega, HX.out, rfl, H5.out, K5.out, by rw [hci]; omega⟩, ?_⟩
      have e1 := H5.out.cur
      have e2 := hcur.out
      have e3 := H5.out.el
      simp only [e1, e2]
      omega
    | false =>
      cases hq1 : isP L s' tMinus with
      | true =>
        have hlt := isP_lt hq1
        have HB := Lib.hid (fun w' h' => (IH.out f' (by omega)).prod w' (advP s') h' (by show 12 * (L.length - (s'.i + 1)) + 4 ≤ f'; omega))
        have g2 := (allG L f').prod (advP s')
        obtain ⟨sb, vb, hB⟩ : ∃ sb vb, prodP L f' (advP s') = (sb, vb) := ⟨_, _, rfl⟩
        rw [hB] at HB g2
        have h2 := g2.he
        have h3 := g2.hi
        have h4 : (advP s').i = s'.i + 1 := rfl
        have h5 : (advP s').es = s'.es := rfl
        simp only [h4, h5] at h2 h3
        have hbig : sb.es.length + 1 ≤ sb.i := by omega
        obtain ⟨sc, vc, hC⟩ : ∃ sc vc, putP sb ⟨5, noB, 0, [a', vb], ps⟩ = (sc, vc) := ⟨_, _, rfl⟩
        have hci : sc.i = sb.i := by
          have e : sc = (putP sb ⟨5, noB, 0, [a', vb], ps⟩).1 := by rw [hC]
          rw [e]; unfold putP; split <;> rfl
        have HX := Lib.hid (show R = sumLoopP L f' sc vc from by rw [HRR.out, sumLoopP]; simp only [hq0, hq1, hB, HNOW.out, hC]; rfl)
        have HQ := Lib.hid hq1
        have HBIG := Lib.hid hbig
        have HC := Lib.hid hC
        have HQ0 := Lib.hid hq0
        clear h2 h4 h5 g2 hB hbig hC hq0 hq1
        go_wp2_with fail
        refine (now_pm wr HP.out HNOW.out).mono ?_
        rintro e w2 ⟨rfl, h2, k2, _⟩
        have H2 := Lib.hid h2
        have K2 := Lib.hid (HK.out.trans k2)
        clear h2 k2
        go_wp2_with fail
        refine (take_no _ H2.out tPlus HQ0.out).mono ?_
        rintro e w2 ⟨rfl, h2, k2⟩
        replace K2 := Lib.hid (K2.out.trans k2)
        replace H2 := Lib.hid h2
        clear h2 k2
        go_wp2_with fail
        refine (take_yes _ H2.out tMinus HQ.out).mono ?_
        rintro e w3 ⟨rfl, h3', k3⟩
        have H3 := Lib.hid h3'
        have K3 := Lib.hid (K2.out.trans k3)
        clear h3' k3
        go_wp2_with fail
        refine (HB.out w3 H3.out).mono ?_
        rintro e w4 ⟨rfl, h4, k4⟩
        have H4 := Lib.hid h4
        have K4 := Lib.hid (K3.out.trans k4)
        clear h4 k4
        go_wp2_with fail
        have HPU := put_pm _ (H4.out.below (one_new w4 _)) ⟨5, noB, 0, [a', vb], ps⟩ _ (args2 w4 a' vb) HBIG.out
        rw [HC.out] at HPU
        refine HPU.mono ?_
        clear HPU
        rintro e w5 ⟨rfl, h5, k5⟩
        have H5 := Lib.hid h5
        have K5 := Lib.hid ((K4.out.trans (KT.below (one_new w4 _))).trans k5)
        clear h5 k5
        go_wp2
        refine ⟨⟨f', sc, vc, by omega, HX.out, rfl, H5.out, K5.out, by rw [hci]; omega⟩, ?_⟩
        have e1 := H5.out.cur
        have e2 := hcur.out
        have e3 := H5.out.el
        simp only [e1, e2]
        omega
      | false =>
        have HX := Lib.hid (show R = (s', a') from by rw [HRR.out, sumLoopP]; simp only [hq0, hq1]; rfl)
        have HQ0 := Lib.hid hq0
        have HQ1 := Lib.hid hq1
        clear hq0 hq1
        go_wp2_with fail
        refine (now_pm wr HP.out HNOW.out).mono ?_
        rintro e w2 ⟨rfl, h2, k2, _⟩
        have H2 := Lib.hid h2
        have K2 := Lib.hid (HK.out.trans k2)
        clear h2 k2
        go_wp2_with fail
        refine (take_no _ H2.out tPlus HQ0.out).mono ?_
        rintro e w2 ⟨rfl, h2, k2⟩
        replace K2 := Lib.hid (K2.out.trans k2)
        replace H2 := Lib.hid h2
        clear h2 k2
        go_wp2_with fail
        refine (take_no _ H2.out tMinus HQ1.out).mono ?_
        rintro e w2 ⟨rfl, h2, k2⟩
        replace K2 := Lib.hid (K2.out.trans k2)
        replace H2 := Lib.hid h2
        clear h2 k2
        go_wp2
        go_ret
        rw [HX.out]
        exact ⟨rfl, H2.out, K2.out⟩
def ProdRel (base P : Nat) (TA : Option Addr) (tc : Nat) (L : List Tok) (f : Nat) (w : World) (R : PS × Nat) (av : Value) (wr : World) : Prop :=
  ∃ (f' : Nat) (s' : PS) (a' : Nat), f' ≤ f ∧ R = prodLoopP L f' s' a' ∧ av = .int .i64 a' ∧ PM base P TA tc L s' wr ∧ KT base w wr ∧ 12 * (L.length - s'.i) + 1 ≤ f'
set_option maxRecDepth 100000 in
set_option maxHeartbeats 4000000 in
theorem prod_step (f : Nat) (ih : ∀ f', f' ≤ f → AllW base P TA tc L f') (w : World) (s : PS) (h : PM base P TA tc L s w) (hf : 12 * (L.length - s.i) + 4 ≤ f + 1) :
    Calls Tryz.prog 91 #[PP P] w (LevOut base P TA tc L w (prodP L (f + 1) s)) := by
  have HS := Lib.hid ((ih f (Nat.le_refl _)).sign w s h (by omega))
  have g1 := (allG L f).sign s
  obtain ⟨sa, va, hA⟩ : ∃ sa va, signP L f s = (sa, va) := ⟨_, _, rfl⟩
  rw [hA] at HS g1
  obtain ⟨R, hR⟩ : ∃ R, R = prodLoopP L f sa va := ⟨_, rfl⟩
  have hRR : prodP L (f + 1) s = R := by rw [prodP, hA, hR]
  rw [hRR]
  have HR := Lib.hid hR
  have hi1 : s.i ≤ sa.i := g1.hi
  have hla := h.el
  have IH := Lib.hid ih
  have hfa : 12 * (L.length - sa.i) + 1 ≤ f := by omega
  have HFA := Lib.hid hfa
  clear ih hA hR hRR h g1 hi1 hfa
  go_enter Tryz.func91, Tryz.ntmps91
  go_wp2_with fail
  refine HS.out.mono ?_
  rintro e w1 ⟨rfl, h1, k1⟩
  have H1 := Lib.hid h1
  have K1 := Lib.hid k1
  clear h1 k1
  go_wp2
  go_loopw [3] (fun av wr => ProdRel base P TA tc L f w R av wr) (fun av wr => L.length - curI P wr)
  case atStart => exact ⟨f, sa, va, Nat.le_refl _, HR.out, rfl, H1.out, K1.out, HFA.out⟩
  case round =>
    obtain ⟨f', s', a', hf', hr, rfl, hp, hk, hn⟩ := hrel
    obtain ⟨f', rfl⟩ : ∃ g, f' = g + 1 := ⟨f' - 1, by omega⟩
    have hcur := Lib.hid hp.cur
    obtain ⟨he1, he2, he3, _⟩ := hp.el
    obtain ⟨kd, tx, nm, ps, hnow⟩ : ∃ kd tx nm ps, nowP L s' = ⟨kd, tx, nm, ps⟩ := ⟨_, _, _, _, rfl⟩
    have HNOW := Lib.hid hnow
    have HP := Lib.hid hp
    have HK := Lib.hid hk
    have HRR := Lib.hid hr
    clear hp hk hnow hr
    cases hq0 : isP L s' tStar with
    | true =>
      have hlt := isP_lt hq0
      have HB := Lib.hid (fun w' h' => (IH.out f' (by omega)).sign w' (advP s') h' (by show 12 * (L.length - (s'.i + 1)) + 3 ≤ f'; omega))
      have g2 := (allG L f').sign (advP s')
      obtain ⟨sb, vb, hB⟩ : ∃ sb vb, signP L f' (advP s') = (sb, vb) := ⟨_, _, rfl⟩
      rw [hB] at HB g2
      have h2 := g2.he
      have h3 := g2.hi
      have h4 : (advP s').i = s'.i + 1 := rfl
      have h5 : (advP s').es = s'.es := rfl
      simp only [h4, h5] at h2 h3
      have hbig : sb.es.length + 1 ≤ sb.i := by omega
      obtain ⟨sc, vc, hC⟩ : ∃ sc vc, putP sb ⟨6, noB, 0, [a', vb], ps⟩ = (sc, vc) := ⟨_, _, rfl⟩
      have hci : sc.i = sb.i := by
        have e : sc = (putP sb ⟨6, noB, 0, [a', vb], ps⟩).1 := by rw [hC]
        rw [e]; unfold putP; split <;> rfl
      have HX := Lib.hid (show R = prodLoopP L f' sc vc from by rw [HRR.out, prodLoopP]; simp only [hq0, hB, HNOW.out, hC]; rfl)
      have HQ := Lib.hid hq0
      have HBIG := Lib.hid hbig
      have HC := Lib.hid hC
      clear h2 h4 h5 g2 hB hbig hC hq0
      go_wp2_with fail
      refine (now_pm wr HP.out HNOW.out).mono ?_
      rintro e w2 ⟨rfl, h2, k2, _⟩
      have H2 := Lib.hid h2
      have K2 := Lib.hid (HK.out.trans k2)
      clear h2 k2
      go_wp2_with fail
      refine (take_yes _ H2.out tStar HQ.out).mono ?_
      rintro e w3 ⟨rfl, h3', k3⟩
      have H3 := Lib.hid h3'
      have K3 := Lib.hid (K2.out.trans k3)
      clear h3' k3
      go_wp2_with fail
      refine (HB.out w3 H3.out).mono ?_
      rintro e w4 ⟨rfl, h4, k4⟩
      have H4 := Lib.hid h4
      have K4 := Lib.hid (K3.out.trans k4)
      clear h4 k4
      go_wp2_with fail
      have HPU := put_pm _ (H4.out.below (one_new w4 _)) ⟨6, noB, 0, [a', vb], ps⟩ _ (args2 w4 a' vb) HBIG.out
      rw [HC.out] at HPU
      refine HPU.mono ?_
      clear HPU
      rintro e w5 ⟨rfl, h5, k5⟩
      have H5 := Lib.hid h5
      have K5 := Lib.hid ((K4.out.trans (KT.below (one_new w4 _))).trans k5)
      clear h5 k5
      go_wp2
      refine ⟨⟨f', sc, vc, by omega, HX.out, rfl, H5.out, K5.out, by rw [hci]; omega⟩, ?_⟩
      have e1 := H5.out.cur
      have e2 := hcur.out
      have e3 := H5.out.el
      simp only [e1, e2]
      omega
    | false =>
      cases hq1 : isP L s' tAt with
      | true =>
        have hlt := isP_lt hq1
        have HB := Lib.hid (fun w' h' => (IH.out f' (by omega)).sign w' (advP s') h' (by show 12 * (L.length - (s'.i + 1)) + 3 ≤ f'; omega))
        have g2 := (allG L f').sign (advP s')
        obtain ⟨sb, vb, hB⟩ : ∃ sb vb, signP L f' (advP s') = (sb, vb) := ⟨_, _, rfl⟩
        rw [hB] at HB g2
        have h2 := g2.he
        have h3 := g2.hi
        have h4 : (advP s').i = s'.i + 1 := rfl
        have h5 : (advP s').es = s'.es := rfl
        simp only [h4, h5] at h2 h3
        have hbig : sb.es.length + 1 ≤ sb.i := by omega
        obtain ⟨sc, vc, hC⟩ : ∃ sc vc, putP sb ⟨7, noB, 0, [a', vb], ps⟩ = (sc, vc) := ⟨_, _, rfl⟩
        have hci : sc.i = sb.i := by
          have e : sc = (putP sb ⟨7, noB, 0, [a', vb], ps⟩).1 := by rw [hC]
          rw [e]; unfold putP; split <;> rfl
        have HX := Lib.hid (show R = prodLoopP L f' sc vc from by rw [HRR.out, prodLoopP]; simp only [hq0, hq1, hB, HNOW.out, hC]; rfl)
        have HQ := Lib.hid hq1
        have HBIG := Lib.hid hbig
        have HC := Lib.hid hC
        have HQ0 := Lib.hid hq0
        clear h2 h4 h5 g2 hB hbig hC hq0 hq1
        go_wp2_with fail
        refine (now_pm wr HP.out HNOW.out).mono ?_
        rintro e w2 ⟨rfl, h2, k2, _⟩
        have H2 := Lib.hid h2
        have K2 := Lib.hid (HK.out.trans k2)
        clear h2 k2
        go_wp2_with fail
        refine (take_no _ H2.out tStar HQ0.out).mono ?_
        rintro e w2 ⟨rfl, h2, k2⟩
        replace K2 := Lib.hid (K2.out.trans k2)
        replace H2 := Lib.hid h2
        clear h2 k2
        go_wp2_with fail
        refine (take_yes _ H2.out tAt HQ.out).mono ?_
        rintro e w3 ⟨rfl, h3', k3⟩
        have H3 := Lib.hid h3'
        have K3 := Lib.hid (K2.out.trans k3)
        clear h3' k3
        go_wp2_with fail
        refine (HB.out w3 H3.out).mono ?_
        rintro e w4 ⟨rfl, h4, k4⟩
        have H4 := Lib.hid h4
        have K4 := Lib.hid (K3.out.trans k4)
        clear h4 k4
        go_wp2_with fail
        have HPU := put_pm _ (H4.out.below (one_new w4 _)) ⟨7, noB, 0, [a', vb], ps⟩ _ (args2 w4 a' vb) HBIG.out
        rw [HC.out] at HPU
        refine HPU.mono ?_
        clear HPU
        rintro e w5 ⟨rfl, h5, k5⟩
        have H5 := Lib.hid h5
        have K5 := Lib.hid ((K4.out.trans (KT.below (one_new w4 _))).trans k5)
        clear h5 k5
        go_wp2
        refine ⟨⟨f', sc, vc, by omega, HX.out, rfl, H5.out, K5.out, by rw [hci]; omega⟩, ?_⟩
        have e1 := H5.out.cur
        have e2 := hcur.out
        have e3 := H5.out.el
        simp only [e1, e2]
        omega
      | false =>
        have HX := Lib.hid (show R = (s', a') from by rw [HRR.out, prodLoopP]; simp only [hq0, hq1]; rfl)
        have HQ0 := Lib.hid hq0
        have HQ1 := Lib.hid hq1
        clear hq0 hq1
        go_wp2_with fail
        refine (now_pm wr HP.out HNOW.out).mono ?_
        rintro e w2 ⟨rfl, h2, k2, _⟩
        have H2 := Lib.hid h2
        have K2 := Lib.hid (HK.out.trans k2)
        clear h2 k2
        go_wp2_with fail
        refine (take_no _ H2.out tStar HQ0.out).mono ?_
        rintro e w2 ⟨rfl, h2, k2⟩
        replace K2 := Lib.hid (K2.out.trans k2)
        replace H2 := Lib.hid h2
        clear h2 k2
        go_wp2_with fail
        refine (take_no _ H2.out tAt HQ1.out).mono ?_
        rintro e w2 ⟨rfl, h2, k2⟩
        replace K2 := Lib.hid (K2.out.trans k2)
        replace H2 := Lib.hid h2
        clear h2 k2
        go_wp2
        go_ret
        rw [HX.out]
        exact ⟨rfl, H2.out, K2.out⟩
end
end Go.Proofs.YtcefclglmhpdeaaGreatDoor
