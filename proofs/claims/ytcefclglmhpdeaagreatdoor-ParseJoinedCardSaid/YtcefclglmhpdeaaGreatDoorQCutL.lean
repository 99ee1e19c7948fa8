/-
  The plain parser: an error stays; lists that agree up to a place are parsed alike as long as the parser stays there. No program.
-/
import Derived.Test.YtcefclglmhpdeaaGreatDoorQParN
namespace Go.Proofs.YtcefclglmhpdeaaGreatDoor
set_option linter.unusedVariables false
set_option linter.unusedSimpArgs false
open Go.RowKit
/-- An error stays. -/
def Er (s s' : PS) : Prop := s'.err = none → s.err = none
section
variable {L : List Tok} {s s' s'' : PS}
theorem Er.refl (s : PS) : Er s s := fun h => h
theorem Er.trans (h : Er s s') (h' : Er s' s'') : Er s s'' := fun x => h (h' x)
theorem Er.adv : Er s (advP s) := fun h => h
theorem fail_some (L : List Tok) (s : PS) (c : Nat) : (failP L s c).err ≠ none := by
  unfold failP
  split
  · simp
  · rename_i x hx; rw [hx]; simp
theorem Er.fail (c : Nat) : Er s (failP L s c) := fun h => absurd h (fail_some L s c)
theorem Er.want (t : ByteArray) : Er s (wantP L s t) := by
  unfold wantP
  split
  · exact Er.adv
  · exact Er.fail _
theorem Er.name : Er s (nameP L s).1 := by
  unfold nameP
  split
  · exact Er.fail _
  · exact Er.adv
theorem Er.number : Er s (numberP L s).1 := by
  unfold numberP
  split
  · exact Er.fail _
  · exact Er.adv
theorem Er.put (e : Ex) : Er s (putP s e).1 := by
  unfold putP
  split
  · exact Er.refl s
  · exact fun h => h
theorem Er.sink : Er s (sinkP L s).1 := by
  unfold sinkP
  split
  · exact Er.fail _
  · exact fun h => h
theorem Er.rise : Er s (riseP s) := fun h => h
theorem put_i (s : PS) (e : Ex) : (putP s e).1.i = s.i ∧ (putP s e).1.err = s.err := by unfold putP; split <;> exact ⟨rfl, rfl⟩
end
structure AllE (L : List Tok) (f : Nat) : Prop where
  expr : ∀ s, Er s (exprP L f s).1
  sum : ∀ s, Er s (sumP L f s).1
  sumLoop : ∀ s a, Er s (sumLoopP L f s a).1
  prod : ∀ s, Er s (prodP L f s).1
  prodLoop : ∀ s a, Er s (prodLoopP L f s a).1
  sign : ∀ s, Er s (signP L f s).1
  post : ∀ s, Er s (postP L f s).1
  postLoop : ∀ s a, Er s (postLoopP L f s a).1
  atom : ∀ s, Er s (atomP L f s).1
  args : ∀ n s l, Er s (argsP L f n s l).1
theorem allE (L : List Tok) (f : Nat) : AllE L f := by
  induction f with
  | zero => exact ⟨fun s => Er.refl s, fun s => Er.refl s, fun s a => Er.refl s, fun s => Er.refl s, fun s a => Er.refl s, fun s => Er.refl s, fun s => Er.refl s, fun s a => Er.refl s, fun s => Er.refl s, fun n s l => by rw [argsP]; exact Er.refl s⟩
  | succ f ih =>
    refine ⟨?_, ?_, ?_, ?_, ?_, ?_, ?_, ?_, ?_, ?_⟩
    · intro s
      rw [exprP]
      dsimp only
      split
      · exact (((ih.sum s).trans Er.adv).trans (ih.sum _)).trans (Er.put _)
      · exact ih.sum s
    · intro s
      rw [sumP]
      exact (ih.prod s).trans (ih.sumLoop _ _)
    · intro s a
      rw [sumLoopP]
      dsimp only
      split
      · exact ((Er.adv.trans (ih.prod _)).trans (Er.put _)).trans (ih.sumLoop _ _)
      · split
        · exact ((Er.adv.trans (ih.prod _)).trans (Er.put _)).trans (ih.sumLoop _ _)
        · exact Er.refl s
    · intro s
      rw [prodP]
      exact (ih.sign s).trans (ih.prodLoop _ _)
    · intro s a
      rw [prodLoopP]
      dsimp only
      split
      · exact ((Er.adv.trans (ih.sign _)).trans (Er.put _)).trans (ih.prodLoop _ _)
      · split
        · exact ((Er.adv.trans (ih.sign _)).trans (Er.put _)).trans (ih.prodLoop _ _)
        · exact Er.refl s
    · intro s
      rw [signP]
      dsimp only
      split
      · split
        · exact (((Er.sink.trans Er.adv).trans (ih.sign _)).trans Er.rise).trans (Er.put _)
        · exact Er.sink
      · exact ih.post s
    · intro s
      rw [postP]
      exact (ih.atom s).trans (ih.postLoop _ _)
    · intro s a
      rw [postLoopP]
      dsimp only
      split
      · exact ((Er.adv.trans Er.number).trans (Er.put _)).trans (ih.postLoop _ _)
      · exact Er.refl s
    · intro s
      rw [atomP]
      dsimp only
      split
      · exact Er.refl s
      · split
        · exact Er.adv.trans (Er.put _)
        · split
          · exact Er.adv.trans (Er.put _)
          · split
            · exact Er.fail _
            · split
              · split
                · exact (((Er.sink.trans Er.adv).trans (ih.expr _)).trans (Er.want _)).trans Er.rise
                · exact (((((Er.sink.trans Er.adv).trans (Er.want _)).trans (ih.args _ _ _)).trans (Er.want _)).trans Er.rise).trans (Er.put _)
              · exact Er.sink
    · intro n s l
      cases n with
      | zero => rw [argsP]; exact Er.refl s
      | succ n =>
        rw [argsP]
        split
        · exact (ih.expr _).trans (ih.args _ _ _)
        · exact ((Er.want _).trans (ih.expr _)).trans (ih.args _ _ _)
/-! ### Two lists that agree up to a place -/
section
variable {A B : List Tok} {m : Nat} {s : PS}
/-- They agree below m, and at m the second one ends, or they agree there too. -/
structure Agr (A B : List Tok) (m : Nat) : Prop where
  lt : ∀ i, i < m → A[i]? = B[i]?
  fin : ∀ s : PS, s.i = m → (nowP B s).kind = 0 ∨ nowP B s = nowP A s
theorem now_eq (h : Agr A B m) (hs : s.i < m) : nowP B s = nowP A s := by unfold nowP; rw [h.lt _ hs]
theorem is_eq (h : Agr A B m) (hs : s.i ≤ m) (t : ByteArray) (h2 : isP A s t = true → s.i < m) : isP B s t = isP A s t := by
  by_cases hlt : s.i < m
  · unfold isP
    rw [now_eq h hlt]
  · have hA : isP A s t = false := by
      cases hq : isP A s t with
      | false => rfl
      | true => exact absurd (h2 hq) hlt
    rw [hA]
    cases hq : isP B s t with
    | false => rfl
    | true =>
      rcases h.fin s (by omega) with h3 | h3
      · have := (isP_kind hq).2.1
        rw [h3] at this
        omega
      · unfold isP at hq hA
        rw [h3, hA] at hq
        cases hq
def Fin (m : Nat) (s : PS) : Prop := s.err = none ∧ s.i ≤ m
theorem want_eq (h : Agr A B m) (t : ByteArray) (hf : Fin m (wantP A s t)) : wantP B s t = wantP A s t ∧ s.i < m := by
  have hi := want_none hf.1
  have hlt : s.i < m := by have := hf.2; omega
  refine ⟨?_, hlt⟩
  unfold wantP failP
  rw [is_eq h (Nat.le_of_lt hlt) t (fun _ => hlt), now_eq h hlt]
theorem name_eq (h : Agr A B m) (hf : Fin m (nameP A s).1) : nameP B s = nameP A s ∧ s.i < m := by
  have hlt : s.i < m := by
    have h1 := hf.1
    have h2 := hf.2
    unfold nameP at h1 h2
    split at h1
    · exact absurd h1 (fail_some _ _ _)
    · rename_i hc
      rw [if_neg hc] at h2
      have : s.i + 1 ≤ m := h2
      omega
  refine ⟨?_, hlt⟩
  unfold nameP failP
  rw [now_eq h hlt]
theorem number_eq (h : Agr A B m) (hf : Fin m (numberP A s).1) : numberP B s = numberP A s ∧ s.i < m := by
  have hlt : s.i < m := by
    have h1 := hf.1
    have h2 := hf.2
    unfold numberP at h1 h2
    split at h1
    · exact absurd h1 (fail_some _ _ _)
    · rename_i hc
      rw [if_neg hc] at h2
      have : s.i + 1 ≤ m := h2
      omega
  refine ⟨?_, hlt⟩
  unfold numberP failP
  rw [now_eq h hlt]
theorem sink_eq (hf : (sinkP A s).1.err = none) : sinkP B s = sinkP A s := by
  unfold sinkP at hf ⊢
  split
  · rename_i hc
    rw [if_pos hc] at hf
    exact absurd hf (fail_some _ _ _)
  · rfl
theorem Fin.back {s s' : PS} {L : List Tok} {k : Nat} (hf : Fin m s') (g : G L s s' k) (e : Er s s') : Fin m s := ⟨e hf.1, Nat.le_trans g.hi hf.2⟩
theorem Fin.put {s : PS} {e : Ex} (hf : Fin m (putP s e).1) : Fin m s := by
  obtain ⟨h1, h2⟩ := put_i s e
  exact ⟨by rw [← h2]; exact hf.1, by rw [← h1]; exact hf.2⟩
theorem Fin.adv {s : PS} (hf : Fin m (advP s)) : Fin m s ∧ s.i < m := ⟨⟨hf.1, by have : s.i + 1 ≤ m := hf.2; omega⟩, hf.2⟩
end
structure AllL (A B : List Tok) (m f : Nat) : Prop where
  expr : ∀ s, s.i ≤ m → Fin m (exprP A f s).1 → exprP B f s = exprP A f s
  sum : ∀ s, s.i ≤ m → Fin m (sumP A f s).1 → sumP B f s = sumP A f s
  sumLoop : ∀ s a, s.i ≤ m → Fin m (sumLoopP A f s a).1 → sumLoopP B f s a = sumLoopP A f s a
  prod : ∀ s, s.i ≤ m → Fin m (prodP A f s).1 → prodP B f s = prodP A f s
  prodLoop : ∀ s a, s.i ≤ m → Fin m (prodLoopP A f s a).1 → prodLoopP B f s a = prodLoopP A f s a
  sign : ∀ s, s.i ≤ m → Fin m (signP A f s).1 → signP B f s = signP A f s
  post : ∀ s, s.i ≤ m → Fin m (postP A f s).1 → postP B f s = postP A f s
  postLoop : ∀ s a, s.i ≤ m → Fin m (postLoopP A f s a).1 → postLoopP B f s a = postLoopP A f s a
  atom : ∀ s, s.i ≤ m → Fin m (atomP A f s).1 → atomP B f s = atomP A f s
  args : ∀ n s l, s.i ≤ m → Fin m (argsP A f n s l).1 → argsP B f n s l = argsP A f n s l
theorem allL {A B : List Tok} {m : Nat} (h : Agr A B m) (f : Nat) : AllL A B m f := by
  induction f with
  | zero => exact ⟨fun s _ _ => rfl, fun s _ _ => rfl, fun s a _ _ => rfl, fun s _ _ => rfl, fun s a _ _ => rfl, fun s _ _ => rfl, fun s _ _ => rfl, fun s a _ _ => rfl, fun s _ _ => rfl, fun n s l _ _ => by rw [argsP, argsP]⟩
  | succ f ih =>
    have gA := allG A f
    have eA := allE A f
    refine ⟨?_, ?_, ?_, ?_, ?_, ?_, ?_, ?_, ?_, ?_⟩
    · intro s hs hf
      rw [exprP] at hf
      rw [exprP, exprP]
      try dsimp only at hf ⊢
      cases hq : isP A (sumP A f s).1 tLess with
      | true =>
        rw [hq] at hf
        simp only [if_true] at hf
        have h1 := hf.put
        obtain ⟨h2, h3⟩ := (h1.back (gA.sum _) (eA.sum _)).adv
        have e1 := ih.sum s hs h2
        rw [e1, is_eq h h2.2 tLess (fun _ => h3), hq]
        simp only [if_true]
        rw [ih.sum (advP (sumP A f s).1) h3 h1, now_eq h h3]
      | false =>
        rw [hq] at hf
        have h2 : Fin m (sumP A f s).1 := hf
        rw [ih.sum s hs h2, is_eq h h2.2 tLess (fun hx => by rw [hq] at hx; cases hx), hq]
        rfl
    · intro s hs hf
      rw [sumP] at hf
      rw [sumP, sumP]
      try dsimp only at hf ⊢
      have h2 := hf.back (gA.sumLoop _ _) (eA.sumLoop _ _)
      rw [ih.prod s hs h2, ih.sumLoop _ _ h2.2 hf]
    · intro s a hs hf
      rw [sumLoopP] at hf
      rw [sumLoopP, sumLoopP]
      try dsimp only at hf ⊢
      cases hq : isP A s tPlus with
      | true =>
        rw [hq] at hf
        simp only [if_true] at hf
        have h1 := hf.back (gA.sumLoop _ _) (eA.sumLoop _ _)
        have h2 := h1.put
        obtain ⟨h3, h4⟩ := (h2.back (gA.prod _) (eA.prod _)).adv
        rw [is_eq h hs tPlus (fun _ => h4), hq]
        simp only [if_true]
        rw [ih.prod (advP s) h4 h2, now_eq h h4, ih.sumLoop _ _ h1.2 hf]
      | false =>
        rw [hq] at hf
        rw [is_eq h hs tPlus (fun hx => by rw [hq] at hx; cases hx), hq]
        simp only [Bool.false_eq_true, if_false] at hf ⊢
        cases hq2 : isP A s tMinus with
        | true =>
          rw [hq2] at hf
          simp only [if_true] at hf
          have h1 := hf.back (gA.sumLoop _ _) (eA.sumLoop _ _)
          have h2 := h1.put
          obtain ⟨h3, h4⟩ := (h2.back (gA.prod _) (eA.prod _)).adv
          rw [is_eq h hs tMinus (fun _ => h4), hq2]
          simp only [if_true]
          rw [ih.prod (advP s) h4 h2, now_eq h h4, ih.sumLoop _ _ h1.2 hf]
        | false =>
          rw [is_eq h hs tMinus (fun hx => by rw [hq2] at hx; cases hx), hq2]
          rfl
    · intro s hs hf
      rw [prodP] at hf
      rw [prodP, prodP]
      try dsimp only at hf ⊢
      have h2 := hf.back (gA.prodLoop _ _) (eA.prodLoop _ _)
      rw [ih.sign s hs h2, ih.prodLoop _ _ h2.2 hf]
    · intro s a hs hf
      rw [prodLoopP] at hf
      rw [prodLoopP, prodLoopP]
      try dsimp only at hf ⊢
      cases hq : isP A s tStar with
      | true =>
        rw [hq] at hf
        simp only [if_true] at hf
        have h1 := hf.back (gA.prodLoop _ _) (eA.prodLoop _ _)
        have h2 := h1.put
        obtain ⟨h3, h4⟩ := (h2.back (gA.sign _) (eA.sign _)).adv
        rw [is_eq h hs tStar (fun _ => h4), hq]
        simp only [if_true]
        rw [ih.sign (advP s) h4 h2, now_eq h h4, ih.prodLoop _ _ h1.2 hf]
      | false =>
        rw [hq] at hf
        rw [is_eq h hs tStar (fun hx => by rw [hq] at hx; cases hx), hq]
        simp only [Bool.false_eq_true, if_false] at hf ⊢
        cases hq2 : isP A s tAt with
        | true =>
          rw [hq2] at hf
          simp only [if_true] at hf
          have h1 := hf.back (gA.prodLoop _ _) (eA.prodLoop _ _)
          have h2 := h1.put
          obtain ⟨h3, h4⟩ := (h2.back (gA.sign _) (eA.sign _)).adv
          rw [is_eq h hs tAt (fun _ => h4), hq2]
          simp only [if_true]
          rw [ih.sign (advP s) h4 h2, now_eq h h4, ih.prodLoop _ _ h1.2 hf]
        | false =>
          rw [is_eq h hs tAt (fun hx => by rw [hq2] at hx; cases hx), hq2]
          rfl
    · intro s hs hf
      rw [signP] at hf
      rw [signP, signP]
      try dsimp only at hf ⊢
      cases hq : isP A s tMinus with
      | true =>
        rw [hq] at hf
        simp only [if_true] at hf
        cases hk : (sinkP A s).2 with
        | true =>
          rw [hk] at hf
          simp only [if_true] at hf
          have h1 := hf.put
          have h1' : Fin m (signP A f (advP (sinkP A s).1)).1 := h1
          obtain ⟨h2, h3⟩ := (h1'.back (gA.sign _) (eA.sign _)).adv
          have hsi : (sinkP A s).1.i = s.i := by rw [(sink_true hk).2]
          rw [hsi] at h3
          rw [is_eq h hs tMinus (fun _ => h3), hq, sink_eq h2.1, hk]
          simp only [if_true]
          rw [ih.sign _ (by show (sinkP A s).1.i + 1 ≤ m; omega) h1', now_eq h h3]
        | false =>
          rw [hk] at hf
          have h1 : Fin m (sinkP A s).1 := hf
          exact absurd h1.1 (by rw [(sink_false hk).2]; exact fail_some _ _ _)
      | false =>
        rw [hq] at hf
        have h1 : Fin m (postP A f s).1 := hf
        rw [is_eq h hs tMinus (fun hx => by rw [hq] at hx; cases hx), hq]
        exact ih.post s hs h1
    · intro s hs hf
      rw [postP] at hf
      rw [postP, postP]
      try dsimp only at hf ⊢
      have h2 := hf.back (gA.postLoop _ _) (eA.postLoop _ _)
      rw [ih.atom s hs h2, ih.postLoop _ _ h2.2 hf]
    · intro s a hs hf
      rw [postLoopP] at hf
      rw [postLoopP, postLoopP]
      try dsimp only at hf ⊢
      cases hq : isP A s tShift with
      | true =>
        rw [hq] at hf
        simp only [if_true] at hf
        have h1 := hf.back (gA.postLoop _ _) (eA.postLoop _ _)
        have h2 := h1.put
        obtain ⟨h3, h4⟩ := (h2.back (G.number _) Er.number).adv
        rw [is_eq h hs tShift (fun _ => h4), hq]
        simp only [if_true]
        rw [(number_eq h h2).1, now_eq h h4, ih.postLoop _ _ h1.2 hf]
      | false =>
        rw [is_eq h hs tShift (fun hx => by rw [hq] at hx; cases hx), hq]
        rfl
    · intro s hs hf
      rw [atomP] at hf
      rw [atomP, atomP]
      try dsimp only at hf ⊢
      by_cases he : s.err.isSome = true
      · rw [if_pos he, if_pos he]
      · rw [if_neg he] at hf ⊢
        rw [if_neg he]
        have hlt : s.i < m := by
          by_cases h2 : ((nowP A s).kind == 2) = true
          · rw [if_pos h2] at hf
            exact hf.put.adv.2
          · rw [if_neg h2] at hf
            by_cases h1 : ((nowP A s).kind == 1) = true
            · rw [if_pos h1] at hf
              exact hf.put.adv.2
            · rw [if_neg h1] at hf
              split at hf
              · exact absurd hf.1 (fail_some _ _ _)
              · cases hk : (sinkP A s).2 with
                | false =>
                  rw [hk] at hf
                  have h1 : Fin m (sinkP A s).1 := hf
                  exact absurd h1.1 (by rw [(sink_false hk).2]; exact fail_some _ _ _)
                | true =>
                  have hsi : (sinkP A s).1.i = s.i := by rw [(sink_true hk).2]
                  rw [hk] at hf
                  simp only [if_true] at hf
                  split at hf
                  · have hx : Fin m (wantP A (exprP A f (advP (sinkP A s).1)).1 tShut) := hf
                    have hy := ((hx.back (G.want _ _) (Er.want _)).back (gA.expr _) (eA.expr _)).adv.2
                    omega
                  · have hx : Fin m (wantP A (argsP A f (callP (nowP A s)).2 (wantP A (advP (sinkP A s).1) tOpen) []).1 tShut) := hf.put
                    have hy := (((hx.back (G.want _ _) (Er.want _)).back (gA.args _ _ _) (eA.args _ _ _)).back (G.want _ _) (Er.want _)).adv.2
                    omega
        rw [now_eq h hlt, is_eq h hs tOpen (fun _ => hlt)]
        split
        · rfl
        · rename_i h2
          rw [if_neg h2] at hf
          split
          · rfl
          · rename_i h1
            rw [if_neg h1] at hf
            split
            · rename_i hc
              rw [if_pos hc] at hf
              exact absurd hf.1 (fail_some _ _ _)
            · rename_i hc
              rw [if_neg hc] at hf
              cases hk : (sinkP A s).2 with
              | false =>
                rw [hk] at hf
                have h1 : Fin m (sinkP A s).1 := hf
                exact absurd h1.1 (by rw [(sink_false hk).2]; exact fail_some _ _ _)
              | true =>
                have hsi : (sinkP A s).1.i = s.i := by rw [(sink_true hk).2]
                have hse : (sinkP A s).1.err = none := by
                  rw [(sink_true hk).2]
                  show s.err = none
                  cases hx : s.err with
                  | none => rfl
                  | some y => rw [hx] at he; exact absurd rfl he
                rw [sink_eq hse, hk]
                rw [hk] at hf
                simp only [if_true] at hf ⊢
                split
                · rename_i hn
                  rw [if_pos hn] at hf
                  have hx : Fin m (wantP A (exprP A f (advP (sinkP A s).1)).1 tShut) := hf
                  have hy := hx.back (G.want _ _) (Er.want _)
                  rw [ih.expr _ (by show (sinkP A s).1.i + 1 ≤ m; omega) hy, (want_eq h tShut hx).1]
                · rename_i hn
                  rw [if_neg hn] at hf
                  have hx : Fin m (wantP A (argsP A f (callP (nowP A s)).2 (wantP A (advP (sinkP A s).1) tOpen) []).1 tShut) := hf.put
                  have hy := hx.back (G.want _ _) (Er.want _)
                  have hz := hy.back (gA.args _ _ _) (eA.args _ _ _)
                  rw [(want_eq h tOpen hz).1, ih.args _ _ _ hz.2 hy, (want_eq h tShut hx).1]
    · intro n s l hs hf
      cases n with
      | zero => rw [argsP, argsP]
      | succ n =>
        rw [argsP] at hf
        rw [argsP, argsP]
        have h1 := hf.back (gA.args _ _ _) (eA.args _ _ _)
        have h2 := h1.back (gA.expr _) (eA.expr _)
        by_cases hl : l.length = 0
        · rw [if_pos hl] at h1 h2 hf ⊢
          rw [if_pos hl]
          rw [ih.expr _ hs h1, ih.args _ _ _ h1.2 hf]
        · rw [if_neg hl] at h1 h2 hf ⊢
          rw [if_neg hl]
          rw [(want_eq h tComma h2).1, ih.expr _ h2.2 h1, ih.args _ _ _ h1.2 hf]
end Go.Proofs.YtcefclglmhpdeaaGreatDoor
