/-
  The parser on tokens that stand behind others: the same tree, moved. No program.
-/
import Derived.Test.YtcefclglmhpdeaaGreatDoorQCutM
namespace Go.Proofs.YtcefclglmhpdeaaGreatDoor
set_option linter.unusedVariables false
set_option linter.unusedSimpArgs false
open Go.RowKit
def shT (d : Nat) (t : Tok) : Tok := { t with pos := t.pos + d }
def shE (k d : Nat) (e : Ex) : Ex := { e with args := e.args.map (fun a => a + k), pos := e.pos + d }
def shS (k d : Nat) (x : Sm) : Sm := { x with expr := if x.kind = 2 then x.expr + k else x.expr, pos := x.pos + d }
/-- What stands ahead: so many tokens, so many bytes, a tree. -/
structure Off where
  i0 : Nat
  d : Nat
  ss0 : List Sm
  es0 : List Ex
def Off.k (o : Off) : Nat := o.es0.length
def Off.st (o : Off) (s : PS) : PS := ⟨s.i + o.i0, o.ss0 ++ s.ss.map (shS o.k o.d), o.es0 ++ s.es.map (shE o.k o.d), s.deep, s.err.map fun q => (q.1, q.2 + o.d)⟩
structure Sh (A B : List Tok) (o : Off) : Prop where
  now : ∀ s s' : PS, s'.i = s.i + o.i0 → (nowP B s').kind = (nowP A s).kind ∧ (nowP B s').text = (nowP A s).text ∧ (nowP B s').num = (nowP A s).num ∧ ((nowP A s).kind ≠ 0 → (nowP B s').pos = (nowP A s).pos + o.d)
section
variable {A B : List Tok} {o : Off} {s : PS}
theorem st_none (o : Off) (s : PS) : (o.st s).err.isNone = s.err.isNone := by unfold Off.st; cases s.err <;> rfl
theorem st_some (o : Off) (s : PS) : (o.st s).err.isSome = s.err.isSome := by unfold Off.st; cases s.err <;> rfl
theorem st_err {o : Off} {s : PS} (h : s.err = none) : (o.st s).err = none := by unfold Off.st; rw [h]; rfl
theorem is_sh (h : Sh A B o) (s : PS) (t : ByteArray) : isP B (o.st s) t = isP A s t := by
  obtain ⟨h1, h2, _, _⟩ := h.now s (o.st s) rfl
  unfold isP
  rw [h1, h2, st_none]
theorem adv_sh (o : Off) (s : PS) : advP (o.st s) = o.st (advP s) := by
  unfold advP Off.st
  dsimp only
  rw [Nat.add_right_comm]
theorem rise_sh (o : Off) (s : PS) : riseP (o.st s) = o.st (riseP s) := rfl
theorem pos_sh (h : Sh A B o) {t : ByteArray} (hq : isP A s t = true) : (nowP B (o.st s)).pos = (nowP A s).pos + o.d := (h.now s (o.st s) rfl).2.2.2 (by have := (isP_kind hq).2.1; omega)
theorem want_sh (h : Sh A B o) {t : ByteArray} (hf : (wantP A s t).err = none) : wantP B (o.st s) t = o.st (wantP A s t) := by
  unfold wantP at hf ⊢
  rw [is_sh h]
  cases hq : isP A s t with
  | true => simp only [if_true]; exact adv_sh o s
  | false => rw [hq] at hf; exact absurd hf (fail_some _ _ _)
theorem name_sh (h : Sh A B o) (hf : (nameP A s).1.err = none) : nameP B (o.st s) = (o.st (nameP A s).1, (nameP A s).2) := by
  obtain ⟨h1, h2, _, _⟩ := h.now s (o.st s) rfl
  unfold nameP at hf ⊢
  rw [h1, h2, st_some]
  split
  · rename_i hc; rw [if_pos hc] at hf; exact absurd hf (fail_some _ _ _)
  · rw [adv_sh]
theorem number_sh (h : Sh A B o) (hf : (numberP A s).1.err = none) : numberP B (o.st s) = (o.st (numberP A s).1, (numberP A s).2) := by
  obtain ⟨h1, _, h2, _⟩ := h.now s (o.st s) rfl
  unfold numberP at hf ⊢
  rw [h1, h2, st_some]
  split
  · rename_i hc; rw [if_pos hc] at hf; exact absurd hf (fail_some _ _ _)
  · rw [adv_sh]
theorem put_sh (o : Off) {e : Ex} (hf : (putP s e).1.err = none) : putP (o.st s) (shE o.k o.d e) = (o.st (putP s e).1, (putP s e).2 + o.k) := by
  have he : s.err = none := Er.put e hf
  unfold putP
  rw [st_err he, he]
  simp only [Option.isSome_none, Bool.false_eq_true, if_false]
  unfold Off.st
  simp only [List.map_append, List.append_assoc, List.map_cons, List.map_nil, List.length_append, List.length_map, he]
  simp [Off.k, Nat.add_comm]
theorem sink_sh (o : Off) (hf : (sinkP A s).1.err = none) : sinkP B (o.st s) = (o.st (sinkP A s).1, (sinkP A s).2) := by
  unfold sinkP at hf ⊢
  have hd : (o.st s).deep = s.deep := rfl
  rw [hd]
  split
  · rename_i hc; rw [if_pos hc] at hf; exact absurd hf (fail_some _ _ _)
  · rfl
theorem call_sh (h : Sh A B o) (s : PS) : callP (nowP B (o.st s)) = callP (nowP A s) := by
  obtain ⟨h1, h2, _, _⟩ := h.now s (o.st s) rfl
  unfold callP
  rw [h1, h2]
end
structure AllSh (A B : List Tok) (o : Off) (f : Nat) : Prop where
  expr : ∀ s, 12 * (A.length - s.i) + 6 ≤ f → (exprP A f s).1.err = none → exprP B f (o.st s) = (o.st (exprP A f s).1, (exprP A f s).2 + o.k)
  sum : ∀ s, 12 * (A.length - s.i) + 5 ≤ f → (sumP A f s).1.err = none → sumP B f (o.st s) = (o.st (sumP A f s).1, (sumP A f s).2 + o.k)
  sumLoop : ∀ s a, 12 * (A.length - s.i) + 1 ≤ f → (sumLoopP A f s a).1.err = none → sumLoopP B f (o.st s) (a + o.k) = (o.st (sumLoopP A f s a).1, (sumLoopP A f s a).2 + o.k)
  prod : ∀ s, 12 * (A.length - s.i) + 4 ≤ f → (prodP A f s).1.err = none → prodP B f (o.st s) = (o.st (prodP A f s).1, (prodP A f s).2 + o.k)
  prodLoop : ∀ s a, 12 * (A.length - s.i) + 1 ≤ f → (prodLoopP A f s a).1.err = none → prodLoopP B f (o.st s) (a + o.k) = (o.st (prodLoopP A f s a).1, (prodLoopP A f s a).2 + o.k)
  sign : ∀ s, 12 * (A.length - s.i) + 3 ≤ f → (signP A f s).1.err = none → signP B f (o.st s) = (o.st (signP A f s).1, (signP A f s).2 + o.k)
  post : ∀ s, 12 * (A.length - s.i) + 2 ≤ f → (postP A f s).1.err = none → postP B f (o.st s) = (o.st (postP A f s).1, (postP A f s).2 + o.k)
  postLoop : ∀ s a, (postLoopP A f s a).1.err = none → postLoopP B f (o.st s) (a + o.k) = (o.st (postLoopP A f s a).1, (postLoopP A f s a).2 + o.k)
  atom : ∀ s, 12 * (A.length - s.i) + 1 ≤ f → (atomP A f s).1.err = none → atomP B f (o.st s) = (o.st (atomP A f s).1, (atomP A f s).2 + o.k)
  args : ∀ n s l, n ≤ 3 → 12 * (A.length - s.i) + 7 + n ≤ f → (argsP A f n s l).1.err = none → argsP B f n (o.st s) (l.map fun a => a + o.k) = (o.st (argsP A f n s l).1, (argsP A f n s l).2.map fun a => a + o.k)
theorem allSh {A B : List Tok} {o : Off} (h : Sh A B o) (f : Nat) : AllSh A B o f := by
  induction f with
  | zero => exact ⟨fun s h => by omega, fun s h => by omega, fun s a h => by omega, fun s h => by omega, fun s a h => by omega, fun s h => by omega, fun s h => by omega, fun s a _ => rfl, fun s h => by omega, fun n s l _ h => by omega⟩
  | succ f ih =>
    have gA := allG A f
    have eA := allE A f
    refine ⟨?_, ?_, ?_, ?_, ?_, ?_, ?_, ?_, ?_, ?_⟩
    · intro s hw hf
      simp only [exprP] at hf ⊢
      cases hq : isP A (sumP A f s).1 tLess with
      | true =>
        rw [hq] at hf
        simp only [if_true] at hf ⊢
        have h1 := Er.put _ hf
        have h2 : (sumP A f s).1.err = none := Er.adv (eA.sum _ h1)
        have i1 := (gA.sum s).hi
        have i2 := isP_lt hq
        have i3 : (advP (sumP A f s).1).i = (sumP A f s).1.i + 1 := rfl
        rw [ih.sum s (by omega) h2]
        simp only [is_sh h, hq, if_true, adv_sh]
        rw [ih.sum _ (by omega) h1, pos_sh h hq]
        exact put_sh o hf
      | false =>
        rw [hq] at hf
        simp only [Bool.false_eq_true, if_false] at hf ⊢
        rw [ih.sum s (by omega) hf]
        simp only [is_sh h, hq, Bool.false_eq_true, if_false]
    · intro s hw hf
      simp only [sumP] at hf ⊢
      have h2 := eA.sumLoop _ _ hf
      have i1 := (gA.prod s).hi
      rw [ih.prod s (by omega) h2]
      exact ih.sumLoop _ _ (by omega) hf
    · intro s a hw hf
      simp only [sumLoopP] at hf ⊢
      rw [is_sh h, is_sh h]
      cases hq : isP A s tPlus with
      | true =>
        rw [hq] at hf
        simp only [if_true] at hf ⊢
        have h1 := eA.sumLoop _ _ hf
        have h2 := Er.put _ h1
        have i2 := isP_lt hq
        have i3 : (advP s).i = s.i + 1 := rfl
        have i4 := (gA.prod (advP s)).hi
        have i5 := (put_i (prodP A f (advP s)).1 ⟨4, noB, 0, [a, (prodP A f (advP s)).2], (nowP A s).pos⟩).1
        rw [adv_sh, ih.prod _ (by omega) h2, pos_sh h hq]
        have e := put_sh o h1
        unfold shE at e
        simp only [List.map_cons, List.map_nil] at e
        rw [e]
        exact ih.sumLoop _ _ (by omega) hf
      | false =>
        rw [hq] at hf
        simp only [Bool.false_eq_true, if_false] at hf ⊢
        cases hq2 : isP A s tMinus with
        | true =>
          rw [hq2] at hf
          simp only [if_true] at hf ⊢
          have h1 := eA.sumLoop _ _ hf
          have h2 := Er.put _ h1
          have i2 := isP_lt hq2
          have i3 : (advP s).i = s.i + 1 := rfl
          have i4 := (gA.prod (advP s)).hi
          have i5 := (put_i (prodP A f (advP s)).1 ⟨5, noB, 0, [a, (prodP A f (advP s)).2], (nowP A s).pos⟩).1
          rw [adv_sh, ih.prod _ (by omega) h2, pos_sh h hq2]
          have e := put_sh o h1
          unfold shE at e
          simp only [List.map_cons, List.map_nil] at e
          rw [e]
          exact ih.sumLoop _ _ (by omega) hf
        | false => simp only [Bool.false_eq_true, if_false]
    · intro s hw hf
      simp only [prodP] at hf ⊢
      have h2 := eA.prodLoop _ _ hf
      have i1 := (gA.sign s).hi
      rw [ih.sign s (by omega) h2]
      exact ih.prodLoop _ _ (by omega) hf
    · intro s a hw hf
      simp only [prodLoopP] at hf ⊢
      rw [is_sh h, is_sh h]
      cases hq : isP A s tStar with
      | true =>
        rw [hq] at hf
        simp only [if_true] at hf ⊢
        have h1 := eA.prodLoop _ _ hf
        have h2 := Er.put _ h1
        have i2 := isP_lt hq
        have i3 : (advP s).i = s.i + 1 := rfl
        have i4 := (gA.sign (advP s)).hi
        have i5 := (put_i (signP A f (advP s)).1 ⟨6, noB, 0, [a, (signP A f (advP s)).2], (nowP A s).pos⟩).1
        rw [adv_sh, ih.sign _ (by omega) h2, pos_sh h hq]
        have e := put_sh o h1
        unfold shE at e
        simp only [List.map_cons, List.map_nil] at e
        rw [e]
        exact ih.prodLoop _ _ (by omega) hf
      | false =>
        rw [hq] at hf
        simp only [Bool.false_eq_true, if_false] at hf ⊢
        cases hq2 : isP A s tAt with
        | true =>
          rw [hq2] at hf
          simp only [if_true] at hf ⊢
          have h1 := eA.prodLoop _ _ hf
          have h2 := Er.put _ h1
          have i2 := isP_lt hq2
          have i3 : (advP s).i = s.i + 1 := rfl
          have i4 := (gA.sign (advP s)).hi
          have i5 := (put_i (signP A f (advP s)).1 ⟨7, noB, 0, [a, (signP A f (advP s)).2], (nowP A s).pos⟩).1
          rw [adv_sh, ih.sign _ (by omega) h2, pos_sh h hq2]
          have e := put_sh o h1
          unfold shE at e
          simp only [List.map_cons, List.map_nil] at e
          rw [e]
          exact ih.prodLoop _ _ (by omega) hf
        | false => simp only [Bool.false_eq_true, if_false]
    · intro s hw hf
      simp only [signP] at hf ⊢
      rw [is_sh h]
      cases hq : isP A s tMinus with
      | true =>
        rw [hq] at hf
        simp only [if_true] at hf ⊢
        cases hk : (sinkP A s).2 with
        | true =>
          rw [hk] at hf
          simp only [if_true] at hf
          have h1 := Er.put _ hf
          have h1' : (signP A f (advP (sinkP A s).1)).1.err = none := h1
          have h2 : (sinkP A s).1.err = none := Er.adv (eA.sign _ h1')
          have hsi : (sinkP A s).1.i = s.i := by rw [(sink_true hk).2]
          have i2 := isP_lt hq
          have i3 : (advP (sinkP A s).1).i = (sinkP A s).1.i + 1 := rfl
          rw [sink_sh o h2, hk]
          simp only [if_true, adv_sh]
          rw [ih.sign _ (by omega) h1', pos_sh h hq]
          simp only [rise_sh]
          exact put_sh o hf
        | false =>
          rw [hk] at hf
          have h1 : (sinkP A s).1.err = none := hf
          exact absurd h1 (by rw [(sink_false hk).2]; exact fail_some _ _ _)
      | false =>
        rw [hq] at hf
        simp only [Bool.false_eq_true, if_false] at hf ⊢
        exact ih.post s (by omega) hf
    · intro s hw hf
      simp only [postP] at hf ⊢
      have h2 := eA.postLoop _ _ hf
      rw [ih.atom s (by omega) h2]
      exact ih.postLoop _ _ hf
    · intro s a hf
      simp only [postLoopP] at hf ⊢
      rw [is_sh h]
      cases hq : isP A s tShift with
      | true =>
        rw [hq] at hf
        simp only [if_true] at hf ⊢
        have h1 := eA.postLoop _ _ hf
        have h2 := Er.put _ h1
        rw [adv_sh, number_sh h h2, pos_sh h hq]
        have e := put_sh o h1
        unfold shE at e
        simp only [List.map_cons, List.map_nil] at e
        rw [e]
        exact ih.postLoop _ _ hf
      | false => simp only [Bool.false_eq_true, if_false]
    · intro s hw hf
      obtain ⟨n1, n2, n3, n4⟩ := h.now s (o.st s) rfl
      simp only [atomP] at hf ⊢
      rw [st_some]
      by_cases he : s.err.isSome = true
      · rw [if_pos he] at hf
        rw [hf] at he
        cases he
      · rw [if_neg he] at hf ⊢
        rw [if_neg he]
        rw [n1]
        by_cases h2 : ((nowP A s).kind == 2) = true
        · rw [if_pos h2] at hf ⊢
          rw [if_pos h2, n3, n4 (by rw [beq_iff_eq] at h2; omega), adv_sh]
          exact put_sh o hf
        · rw [if_neg h2] at hf ⊢
          rw [if_neg h2]
          by_cases h1 : ((nowP A s).kind == 1) = true
          · rw [if_pos h1] at hf ⊢
            rw [if_pos h1, n2, n4 (by rw [beq_iff_eq] at h1; omega), adv_sh]
            exact put_sh o hf
          · rw [if_neg h1] at hf ⊢
            rw [if_neg h1, is_sh h, call_sh h]
            by_cases hc : ((!isP A s tOpen) && ((callP (nowP A s)).2 == 0)) = true
            · rw [if_pos hc] at hf
              exact absurd hf (fail_some _ _ _)
            · rw [if_neg hc] at hf ⊢
              rw [if_neg hc]
              have hk0 : (nowP A s).kind ≠ 0 := by
                intro h0
                apply hc
                have hp : isP A s tOpen = false := by
                  cases hx : isP A s tOpen with
                  | false => rfl
                  | true => have := (isP_kind hx).2.1; omega
                have hcc : callP (nowP A s) = (0, 0) := by unfold callP; rw [h0]; rfl
                rw [hp, hcc]
                rfl
              have i2 := now_lt hk0
              cases hk : (sinkP A s).2 with
              | false =>
                rw [hk] at hf
                have h1 : (sinkP A s).1.err = none := hf
                exact absurd h1 (by rw [(sink_false hk).2]; exact fail_some _ _ _)
              | true =>
                have hsi : (sinkP A s).1.i = s.i := by rw [(sink_true hk).2]
                have i3 : (advP (sinkP A s).1).i = (sinkP A s).1.i + 1 := rfl
                have hse : (sinkP A s).1.err = none := by
                  rw [(sink_true hk).2]
                  show s.err = none
                  cases hx : s.err with
                  | none => rfl
                  | some y => rw [hx] at he; exact absurd rfl he
                rw [sink_sh o hse, hk]
                rw [hk] at hf
                simp only [if_true] at hf ⊢
                by_cases hn : ((callP (nowP A s)).2 == 0) = true
                · rw [if_pos hn] at hf ⊢
                  rw [if_pos hn]
                  have hx : (wantP A (exprP A f (advP (sinkP A s).1)).1 tShut).err = none := hf
                  have hy := Er.want tShut hx
                  rw [adv_sh, ih.expr _ (by omega) hy, want_sh h hx]
                  rfl
                · rw [if_neg hn] at hf ⊢
                  rw [if_neg hn]
                  have h0 := Er.put _ hf
                  have hx : (wantP A (argsP A f (callP (nowP A s)).2 (wantP A (advP (sinkP A s).1) tOpen) []).1 tShut).err = none := h0
                  have hy := Er.want tShut hx
                  have hz := eA.args _ _ _ hy
                  have i4 := (G.want (L := A) (advP (sinkP A s).1) tOpen).hi
                  have hcn : (callP (nowP A s)).2 ≤ 3 := by
                    unfold callP
                    repeat' split
                    all_goals simp
                  have ea := ih.args (callP (nowP A s)).2 (wantP A (advP (sinkP A s).1) tOpen) [] hcn (by omega) hy
                  rw [List.map_nil] at ea
                  rw [adv_sh, want_sh h hz, ea, n4 hk0]
                  simp only [want_sh h hx, rise_sh]
                  exact put_sh o hf
    · intro n s l hn hw hf
      cases n with
      | zero => simp only [argsP]
      | succ n =>
        simp only [argsP] at hf ⊢
        have h1 := eA.args _ _ _ hf
        by_cases hl : l.length = 0
        · have hl' : (l.map fun a => a + o.k).length = 0 := by rw [List.length_map]; exact hl
          rw [if_pos hl] at h1 hf ⊢
          rw [if_pos hl']
          have i1 := (gA.expr s).hi
          rw [ih.expr s (by omega) h1]
          have e := ih.args n (exprP A f s).1 (l ++ [(exprP A f s).2]) (by omega) (by omega) hf
          rw [List.map_append] at e
          exact e
        · have hl' : ¬ (l.map fun a => a + o.k).length = 0 := by rw [List.length_map]; exact hl
          rw [if_neg hl] at h1 hf ⊢
          rw [if_neg hl']
          have h2 := eA.expr _ h1
          have i0 := (G.want (L := A) s tComma).hi
          have i1 := (gA.expr (wantP A s tComma)).hi
          rw [want_sh h h2, ih.expr _ (by omega) h1]
          have e := ih.args n (exprP A f (wantP A s tComma)).1 (l ++ [(exprP A f (wantP A s tComma)).2]) (by omega) (by omega) hf
          rw [List.map_append] at e
          exact e
end Go.Proofs.YtcefclglmhpdeaaGreatDoor
