/-
  The plain parser: an error stays; lists that agree up to a place are parsed alike as long as the parser stays there. No program. The scan of a source text, read as a relation on lists of bytes: what blanks and remarks between tokens change. No program. A good list of tokens whose last token is taken away is told as wrong at its end. No program. A parsed tree lies in post-order: what an expression is made of stands in blocks ahead of it. No program.
-/
import Derived.Test.YthnkeejiocnflaaGreatDoorQParN
import Derived.Test.YthnkeejiocnflaaGreatDoorQMin
import Derived.Test.YthnkeejiocnflaaGreatDoorQChkS
namespace Go.Proofs.YthnkeejiocnflaaGreatDoor
set_option linter.unusedVariables false
set_option linter.unusedSimpArgs false
open Go.RowKit
/-- An error stays. -/
def Er (s s' : PS) : Prop := s'.err = none → s.err = none
section
variable {L : List Tok} {s s' s'' : PS}
theorem Er.refl (s : PS) : Er s s := fun h => h
theorem Er.trans (h : Er s s') (h' : Er s' s'') : Er s s'' := fun x => h (h' x)
theorem Er.adv : Er s (advP s) := fun h => h
theorem fail_some (L : List Tok) (s : PS) (c : Nat) : (failP L s c).err ≠ none := by
  unfold failP
  split
  · simp
  · rename_i x hx; rw [hx]; simp
theorem Er.fail (c : Nat) : Er s (failP L s c) := fun h => absurd h (fail_some L s c)
theorem Er.want (t : ByteArray) : Er s (wantP L s t) := by
  unfold wantP
  split
  · exact Er.adv
  · exact Er.fail _
theorem Er.name : Er s (nameP L s).1 := by
  unfold nameP
  split
  · exact Er.fail _
  · exact Er.adv
theorem Er.number : Er s (numberP L s).1 := by
  unfold numberP
  split
  · exact Er.fail _
  · exact Er.adv
theorem Er.put (e : Ex) : Er s (putP s e).1 := by
  unfold putP
  split
  · exact Er.refl s
  · exact fun h => h
theorem Er.sink : Er s (sinkP L s).1 := by
  unfold sinkP
  split
  · exact Er.fail _
  · exact fun h => h
theorem Er.rise : Er s (riseP s) := fun h => h
theorem put_i (s : PS) (e : Ex) : (putP s e).1.i = s.i ∧ (putP s e).1.err = s.err := by unfold putP; split <;> exact ⟨rfl, rfl⟩
end
structure AllE (L : List Tok) (f : Nat) : Prop where
  expr : ∀ s, Er s (exprP L f s).1
  sum : ∀ s, Er s (sumP L f s).1
  sumLoop : ∀ s a, Er s (sumLoopP L f s a).1
  prod : ∀ s, Er s (prodP L f s).1
  prodLoop : ∀ s a, Er s (prodLoopP L f s a).1
  sign : ∀ s, Er s (signP L f s).1
  post : ∀ s, Er s (postP L f s).1
  postLoop : ∀ s a, Er s (postLoopP L f s a).1
  atom : ∀ s, Er s (atomP L f s).1
  args : ∀ n s l, Er s (argsP L f n s l).1
theorem allE (L : List Tok) (f : Nat) : AllE L f := by
  induction f with
  | zero => exact ⟨fun s => Er.refl s, fun s => Er.refl s, fun s a => Er.refl s, fun s => Er.refl s, fun s a => Er.refl s, fun s => Er.refl s, fun s => Er.refl s, fun s a => Er.refl s, fun s => Er.refl s, fun n s l => by rw [argsP]; exact Er.refl s⟩
  | succ f ih =>
    refine ⟨?_, ?_, ?_, ?_, ?_, ?_, ?_, ?_, ?_, ?_⟩
    · intro s
      rw [exprP]
      dsimp only
      split
      · exact (((ih.sum s).trans Er.adv).trans (ih.sum _)).trans (Er.put _)
      · exact ih.sum s
    · intro s
      rw [sumP]
      exact (ih.prod s).trans (ih.sumLoop _ _)
    · intro s a
      rw [sumLoopP]
      dsimp only
      split
      · exact ((Er.adv.trans (ih.prod _)).trans (Er.put _)).trans (ih.sumLoop _ _)
      · split
        · exact ((Er.adv.trans (ih.prod _)).trans (Er.put _)).trans (ih.sumLoop _ _)
        · exact Er.refl s
    · intro s
      rw [prodP]
      exact (ih.sign s).trans (ih.prodLoop _ _)
    · intro s a
      rw [prodLoopP]
      dsimp only
      split
      · exact ((Er.adv.trans (ih.sign _)).trans (Er.put _)).trans (ih.prodLoop _ _)
      · split
        · exact ((Er.adv.trans (ih.sign _)).trans (Er.put _)).trans (ih.prodLoop _ _)
        · exact Er.refl s
    · intro s
      rw [signP]
      dsimp only
      split
      · split
        · exact (((Er.sink.trans Er.adv).trans (ih.sign _)).trans Er.rise).trans (Er.put _)
        · exact Er.sink
      · exact ih.post s
    · intro s
      rw [postP]
      exact (ih.atom s).trans (ih.postLoop _ _)
    · intro s a
      rw [postLoopP]
      dsimp only
      split
      · exact ((Er.adv.trans Er.number).trans (Er.put _)).trans (ih.postLoop _ _)
      · exact Er.refl s
    · intro s
      rw [atomP]
      dsimp only
      split
      · exact Er.refl s
      · split
        · exact Er.adv.trans (Er.put _)
        · split
          · exact Er.adv.trans (Er.put _)
          · split
            · exact Er.fail _
            · split
              · split
                · exact (((Er.sink.trans Er.adv).trans (ih.expr _)).trans (Er.want _)).trans Er.rise
                · exact (((((Er.sink.trans Er.adv).trans (Er.want _)).trans (ih.args _ _ _)).trans (Er.want _)).trans Er.rise).trans (Er.put _)
              · exact Er.sink
    · intro n s l
      cases n with
      | zero => rw [argsP]; exact Er.refl s
      | succ n =>
        rw [argsP]
        split
        · exact (ih.expr _).trans (ih.args _ _ _)
        · exact ((Er.want _).trans (ih.expr _)).trans (ih.args _ _ _)
/-! ### Two lists that agree up to a place -/
section
variable {A B : List Tok} {m : Nat} {s : PS}
/-- They agree below m, and at m the second one ends, or they agree there too. -/
structure Agr (A B : List Tok) (m : Nat) : Prop where
  lt : ∀ i, i < m → A[i]? = B[i]?
  fin : ∀ s : PS, s.i = m → (nowP B s).kind = 0 ∨ nowP B s = nowP A s
theorem now_eq (h : Agr A B m) (hs : s.i < m) : nowP B s = nowP A s := by unfold nowP; rw [h.lt _ hs]
theorem is_eq (h : Agr A B m) (hs : s.i ≤ m) (t : ByteArray) (h2 : isP A s t = true → s.i < m) : isP B s t = isP A s t := by
  by_cases hlt : s.i < m
  · unfold isP
    rw [now_eq h hlt]
  · have hA : isP A s t = false := by
      cases hq : isP A s t with
      | false => rfl
      | true => exact absurd (h2 hq) hlt
    rw [hA]
    cases hq : isP B s t with
    | false => rfl
    | true =>
      rcases h.fin s (by omega) with h3 | h3
      · have := (isP_kind hq).2.1
        rw [h3] at this
        omega
      · unfold isP at hq hA
        rw [h3, hA] at hq
        cases hq
def Fin (m : Nat) (s : PS) : Prop := s.err = none ∧ s.i ≤ m
theorem want_eq (h : Agr A B m) (t : ByteArray) (hf : Fin m (wantP A s t)) : wantP B s t = wantP A s t ∧ s.i < m := by
  have hi := want_none hf.1
  have hlt : s.i < m := by have := hf.2; omega
  refine ⟨?_, hlt⟩
  unfold wantP failP
  rw [is_eq h (Nat.le_of_lt hlt) t (fun _ => hlt), now_eq h hlt]
theorem name_eq (h : Agr A B m) (hf : Fin m (nameP A s).1) : nameP B s = nameP A s ∧ s.i < m := by
  have hlt : s.i < m := by
    have h1 := hf.1
    have h2 := hf.2
    unfold nameP at h1 h2
    split at h1
    · exact absurd h1 (fail_some _ _ _)
    · rename_i hc
      rw [if_neg hc] at h2
      have : s.i + 1 ≤ m := h2
      omega
  refine ⟨?_, hlt⟩
  unfold nameP failP
  rw [now_eq h hlt]
theorem number_eq (h : Agr A B m) (hf : Fin m (numberP A s).1) : numberP B s = numberP A s ∧ s.i < m := by
  have hlt : s.i < m := by
    have h1 := hf.1
    have h2 := hf.2
    unfold numberP at h1 h2
    split at h1
    · exact absurd h1 (fail_some _ _ _)
    · rename_i hc
      rw [if_neg hc] at h2
      have : s.i + 1 ≤ m := h2
      omega
  refine ⟨?_, hlt⟩
  unfold numberP failP
  rw [now_eq h hlt]
theorem sink_eq (hf : (sinkP A s).1.err = none) : sinkP B s = sinkP A s := by
  unfold sinkP at hf ⊢
  split
  · rename_i hc
    rw [if_pos hc] at hf
    exact absurd hf (fail_some _ _ _)
  · rfl
theorem Fin.back {s s' : PS} {L : List Tok} {k : Nat} (hf : Fin m s') (g : G L s s' k) (e : Er s s') : Fin m s := ⟨e hf.1, Nat.le_trans g.hi hf.2⟩
theorem Fin.put {s : PS} {e : Ex} (hf : Fin m (putP s e).1) : Fin m s := by
  obtain ⟨h1, h2⟩ := put_i s e
  exact ⟨by rw [← h2]; exact hf.1, by rw [← h1]; exact hf.2⟩
theorem Fin.adv {s : PS} (hf : Fin m (advP s)) : Fin m s ∧ s.i < m := ⟨⟨hf.1, by have : s.i + 1 ≤ m := hf.2; omega⟩, hf.2⟩
end
structure AllL (A B : List Tok) (m f : Nat) : Prop where
  expr : ∀ s, s.i ≤ m → Fin m (exprP A f s).1 → exprP B f s = exprP A f s
  sum : ∀ s, s.i ≤ m → Fin m (sumP A f s).1 → sumP B f s = sumP A f s
  sumLoop : ∀ s a, s.i ≤ m → Fin m (sumLoopP A f s a).1 → sumLoopP B f s a = sumLoopP A f s a
  prod : ∀ s, s.i ≤ m → Fin m (prodP A f s).1 → prodP B f s = prodP A f s
  prodLoop : ∀ s a, s.i ≤ m → Fin m (prodLoopP A f s a).1 → prodLoopP B f s a = prodLoopP A f s a
  sign : ∀ s, s.i ≤ m → Fin m (signP A f s).1 → signP B f s = signP A f s
  post : ∀ s, s.i ≤ m → Fin m (postP A f s).1 → postP B f s = postP A f s
  postLoop : ∀ s a, s.i ≤ m → Fin m (postLoopP A f s a).1 → postLoopP B f s a = postLoopP A f s a
  atom : ∀ s, s.i ≤ m → Fin m (atomP A f s).1 → atomP B f s = atomP A f s
  args : ∀ n s l, s.i ≤ m → Fin m (argsP A f n s l).1 → argsP B f n s l = argsP A f n s l
theorem allL {A B : List Tok} {m : Nat} (h : Agr A B m) (f : Nat) : AllL A B m f := by
  induction f with
  | zero => exact ⟨fun s _ _ => rfl, fun s _ _ => rfl, fun s a _ _ => rfl, fun s _ _ => rfl, fun s a _ _ => rfl, fun s _ _ => rfl, fun s _ _ => rfl, fun s a _ _ => rfl, fun s _ _ => rfl, fun n s l _ _ => by rw [argsP, argsP]⟩
  | succ f ih =>
    have gA := allG A f
    have eA := allE A f
    refine ⟨?_, ?_, ?_, ?_, ?_, ?_, ?_, ?_, ?_, ?_⟩
    · intro s hs hf
      rw [exprP] at hf
      rw [exprP, exprP]
      try dsimp only at hf ⊢
      cases hq : isP A (sumP A f s).1 tLess with
      | true =>
        rw [hq] at hf
        simp only [if_true] at hf
        have h1 := hf.put
        obtain ⟨h2, h3⟩ := (h1.back (gA.sum _) (eA.sum _)).adv
        have e1 := ih.sum s hs h2
        rw [e1, is_eq h h2.2 tLess (fun _ => h3), hq]
        simp only [if_true]
        rw [ih.sum (advP (sumP A f s).1) h3 h1, now_eq h h3]
      | false =>
        rw [hq] at hf
        have h2 : Fin m (sumP A f s).1 := hf
        rw [ih.sum s hs h2, is_eq h h2.2 tLess (fun hx => by rw [hq] at hx; cases hx), hq]
        rfl
    · intro s hs hf
      rw [sumP] at hf
      rw [sumP, sumP]
      try dsimp only at hf ⊢
      have h2 := hf.back (gA.sumLoop _ _) (eA.sumLoop _ _)
      rw [ih.prod s hs h2, ih.sumLoop _ _ h2.2 hf]
    · intro s a hs hf
      rw [sumLoopP] at hf
      rw [sumLoopP, sumLoopP]
      try dsimp only at hf ⊢
      cases hq : isP A s tPlus with
      | true =>
        rw [hq] at hf
        simp only [if_true] at hf
        have h1 := hf.back (gA.sumLoop _ _) (eA.sumLoop _ _)
        have h2 := h1.put
        obtain ⟨h3, h4⟩ := (h2.back (gA.prod _) (eA.prod _)).adv
        rw [is_eq h hs tPlus (fun _ => h4), hq]
        simp only [if_true]
        rw [ih.prod (advP s) h4 h2, now_eq h h4, ih.sumLoop _ _ h1.2 hf]
      | false =>
        rw [hq] at hf
        rw [is_eq h hs tPlus (fun hx => by rw [hq] at hx; cases hx), hq]
        simp only [Bool.false_eq_true, if_false] at hf ⊢
        cases hq2 : isP A s tMinus with
        | true =>
          rw [hq2] at hf
          simp only [if_true] at hf
          have h1 := hf.back (gA.sumLoop _ _) (eA.sumLoop _ _)
          have h2 := h1.put
          obtain ⟨h3, h4⟩ := (h2.back (gA.prod _) (eA.prod _)).adv
          rw [is_eq h hs tMinus (fun _ => h4), hq2]
          simp only [if_true]
          rw [ih.prod (advP s) h4 h2, now_eq h h4, ih.sumLoop _ _ h1.2 hf]
        | false =>
          rw [is_eq h hs tMinus (fun hx => by rw [hq2] at hx; cases hx), hq2]
          rfl
    · intro s hs hf
      rw [prodP] at hf
      rw [prodP, prodP]
      try dsimp only at hf ⊢
      have h2 := hf.back (gA.prodLoop _ _) (eA.prodLoop _ _)
      rw [ih.sign s hs h2, ih.prodLoop _ _ h2.2 hf]
    · intro s a hs hf
      rw [prodLoopP] at hf
      rw [prodLoopP, prodLoopP]
      try dsimp only at hf ⊢
      cases hq : isP A s tStar with
      | true =>
        rw [hq] at hf
        simp only [if_true] at hf
        have h1 := hf.back (gA.prodLoop _ _) (eA.prodLoop _ _)
        have h2 := h1.put
        obtain ⟨h3, h4⟩ := (h2.back (gA.sign _) (eA.sign _)).adv
        rw [is_eq h hs tStar (fun _ => h4), hq]
        simp only [if_true]
        rw [ih.sign (advP s) h4 h2, now_eq h h4, ih.prodLoop _ _ h1.2 hf]
      | false =>
        rw [hq] at hf
        rw [is_eq h hs tStar (fun hx => by rw [hq] at hx; cases hx), hq]
        simp only [Bool.false_eq_true, if_false] at hf ⊢
        cases hq2 : isP A s tAt with
        | true =>
          rw [hq2] at hf
          simp only [if_true] at hf
          have h1 := hf.back (gA.prodLoop _ _) (eA.prodLoop _ _)
          have h2 := h1.put
          obtain ⟨h3, h4⟩ := (h2.back (gA.sign _) (eA.sign _)).adv
          rw [is_eq h hs tAt (fun _ => h4), hq2]
          simp only [if_true]
          rw [ih.sign (advP s) h4 h2, now_eq h h4, ih.prodLoop _ _ h1.2 hf]
        | false =>
          rw [is_eq h hs tAt (fun hx => by rw [hq2] at hx; cases hx), hq2]
          rfl
    · intro s hs hf
      rw [signP] at hf
      rw [signP, signP]
      try dsimp only at hf ⊢
      cases hq : isP A s tMinus with
      | true =>
        rw [hq] at hf
        simp only [if_true] at hf
        cases hk : (sinkP A s).2 with
        | true =>
          rw [hk] at hf
          simp only [if_true] at hf
          have h1 := hf.put
          have h1' : Fin m (signP A f (advP (sinkP A s).1)).1 := h1
          obtain ⟨h2, h3⟩ := (h1'.back (gA.sign _) (eA.sign _)).adv
          have hsi : (sinkP A s).1.i = s.i := by rw [(sink_true hk).2]
          rw [hsi] at h3
          rw [is_eq h hs tMinus (fun _ => h3), hq, sink_eq h2.1, hk]
          simp only [if_true]
          rw [ih.sign _ (by show (sinkP A s).1.i + 1 ≤ m; omega) h1', now_eq h h3]
        | false =>
          rw [hk] at hf
          have h1 : Fin m (sinkP A s).1 := hf
          exact absurd h1.1 (by rw [(sink_false hk).2]; exact fail_some _ _ _)
      | false =>
        rw [hq] at hf
        have h1 : Fin m (postP A f s).1 := hf
        rw [is_eq h hs tMinus (fun hx => by rw [hq] at hx; cases hx), hq]
        exact ih.post s hs h1
    · intro s hs hf
      rw [postP] at hf
      rw [postP, postP]
      try dsimp only at hf ⊢
      have h2 := hf.back (gA.postLoop _ _) (eA.postLoop _ _)
      rw [ih.atom s hs h2, ih.postLoop _ _ h2.2 hf]
    · intro s a hs hf
      rw [postLoopP] at hf
      rw [postLoopP, postLoopP]
      try dsimp only at hf ⊢
      cases hq : isP A s tShift with
      | true =>
        rw [hq] at hf
        simp only [if_true] at hf
        have h1 := hf.back (gA.postLoop _ _) (eA.postLoop _ _)
        have h2 := h1.put
        obtain ⟨h3, h4⟩ := (h2.back (G.number _) Er.number).adv
        rw [is_eq h hs tShift (fun _ => h4), hq]
        simp only [if_true]
        rw [(number_eq h h2).1, now_eq h h4, ih.postLoop _ _ h1.2 hf]
      | false =>
        rw [is_eq h hs tShift (fun hx => by rw [hq] at hx; cases hx), hq]
        rfl
    · intro s hs hf
      rw [atomP] at hf
      rw [atomP, atomP]
      try dsimp only at hf ⊢
      by_cases he : s.err.isSome = true
      · rw [if_pos he, if_pos he]
      · rw [if_neg he] at hf ⊢
        rw [if_neg he]
        have hlt : s.i < m := by
          by_cases h2 : ((nowP A s).kind == 2) = true
          · rw [if_pos h2] at hf
            exact hf.put.adv.2
          · rw [if_neg h2] at hf
            by_cases h1 : ((nowP A s).kind == 1) = true
            · rw [if_pos h1] at hf
              exact hf.put.adv.2
            · rw [if_neg h1] at hf
              split at hf
              · exact absurd hf.1 (fail_some _ _ _)
              · cases hk : (sinkP A s).2 with
                | false =>
                  rw [hk] at hf
                  have h1 : Fin m (sinkP A s).1 := hf
                  exact absurd h1.1 (by rw [(sink_false hk).2]; exact fail_some _ _ _)
                | true =>
                  have hsi : (sinkP A s).1.i = s.i := by rw [(sink_true hk).2]
                  rw [hk] at hf
                  simp only [if_true] at hf
                  split at hf
                  · have hx : Fin m (wantP A (exprP A f (advP (sinkP A s).1)).1 tShut) := hf
                    have hy := ((hx.back (G.want _ _) (Er.want _)).back (gA.expr _) (eA.expr _)).adv.2
                    omega
                  · have hx : Fin m (wantP A (argsP A f (callP (nowP A s)).2 (wantP A (advP (sinkP A s).1) tOpen) []).1 tShut) := hf.put
                    have hy := (((hx.back (G.want _ _) (Er.want _)).back (gA.args _ _ _) (eA.args _ _ _)).back (G.want _ _) (Er.want _)).adv.2
                    omega
        rw [now_eq h hlt, is_eq h hs tOpen (fun _ => hlt)]
        split
        · rfl
        · rename_i h2
          rw [if_neg h2] at hf
          split
          · rfl
          · rename_i h1
            rw [if_neg h1] at hf
            split
            · rename_i hc
              rw [if_pos hc] at hf
              exact absurd hf.1 (fail_some _ _ _)
            · rename_i hc
              rw [if_neg hc] at hf
              cases hk : (sinkP A s).2 with
              | false =>
                rw [hk] at hf
                have h1 : Fin m (sinkP A s).1 := hf
                exact absurd h1.1 (by rw [(sink_false hk).2]; exact fail_some _ _ _)
              | true =>
                have hsi : (sinkP A s).1.i = s.i := by rw [(sink_true hk).2]
                have hse : (sinkP A s).1.err = none := by
                  rw [(sink_true hk).2]
                  show s.err = none
                  cases hx : s.err with
                  | none => rfl
                  | some y => rw [hx] at he; exact absurd rfl he
                rw [sink_eq hse, hk]
                rw [hk] at hf
                simp only [if_true] at hf ⊢
                split
                · rename_i hn
                  rw [if_pos hn] at hf
                  have hx : Fin m (wantP A (exprP A f (advP (sinkP A s).1)).1 tShut) := hf
                  have hy := hx.back (G.want _ _) (Er.want _)
                  rw [ih.expr _ (by show (sinkP A s).1.i + 1 ≤ m; omega) hy, (want_eq h tShut hx).1]
                · rename_i hn
                  rw [if_neg hn] at hf
                  have hx : Fin m (wantP A (argsP A f (callP (nowP A s)).2 (wantP A (advP (sinkP A s).1) tOpen) []).1 tShut) := hf.put
                  have hy := hx.back (G.want _ _) (Er.want _)
                  have hz := hy.back (gA.args _ _ _) (eA.args _ _ _)
                  rw [(want_eq h tOpen hz).1, ih.args _ _ _ hz.2 hy, (want_eq h tShut hx).1]
    · intro n s l hs hf
      cases n with
      | zero => rw [argsP, argsP]
      | succ n =>
        rw [argsP] at hf
        rw [argsP, argsP]
        have h1 := hf.back (gA.args _ _ _) (eA.args _ _ _)
        have h2 := h1.back (gA.expr _) (eA.expr _)
        by_cases hl : l.length = 0
        · rw [if_pos hl] at h1 h2 hf ⊢
          rw [if_pos hl]
          rw [ih.expr _ hs h1, ih.args _ _ _ h1.2 hf]
        · rw [if_neg hl] at h1 h2 hf ⊢
          rw [if_neg hl]
          rw [(want_eq h tComma h2).1, ih.expr _ h2.2 h1, ih.args _ _ _ h1.2 hf]
end Go.Proofs.YthnkeejiocnflaaGreatDoor
namespace Go.Proofs.YthnkeejiocnflaaGreatDoor
set_option linter.unusedVariables false
set_option linter.unusedSimpArgs false
open Go.RowKit
def letO : Option UInt8 → Bool
  | none => false
  | some c => letB c
/-- The token at the head of a list. -/
def oneL : List UInt8 → Option (Nat × Nat × Nat)
  | [] => none
  | c :: r =>
    if digB c then
      if decV ((c :: r).take (spanN digB (c :: r))) < 18446744073709551616 ∧ (c.toNat ≠ 48 ∨ spanN digB (c :: r) = 1) ∧ letO ((c :: r)[spanN digB (c :: r)]?) = false then some (2, spanN digB (c :: r), decV ((c :: r).take (spanN digB (c :: r)))) else none
    else if lowB c then
      if spanN namB (c :: r) ≤ 16 then some (if wordB ((c :: r).take (spanN namB (c :: r))) then 4 else 1, spanN namB (c :: r), 0) else none
    else if Lib.hasPrefix (c :: r) [62, 62] then some (3, 2, 0)
    else if signB c then some (3, 1, 0) else none
theorem oneL_cons (c : UInt8) (r : List UInt8) : oneL (c :: r) =
    if digB c then
      if decV ((c :: r).take (spanN digB (c :: r))) < 18446744073709551616 ∧ (c.toNat ≠ 48 ∨ spanN digB (c :: r) = 1) ∧ letO ((c :: r)[spanN digB (c :: r)]?) = false then some (2, spanN digB (c :: r), decV ((c :: r).take (spanN digB (c :: r)))) else none
    else if lowB c then
      if spanN namB (c :: r) ≤ 16 then some (if wordB ((c :: r).take (spanN namB (c :: r))) then 4 else 1, spanN namB (c :: r), 0) else none
    else if Lib.hasPrefix (c :: r) [62, 62] then some (3, 2, 0)
    else if signB c then some (3, 1, 0) else none := rfl
theorem spanN_cons (p : UInt8 → Bool) (c : UInt8) (r : List UInt8) : spanN p (c :: r) = if p c then spanN p r + 1 else 0 := rfl
theorem letAt_in0 (s : ByteArray) {k : Nat} (h : k < s.size) : letAt s k = letB s[k] := by unfold letAt; rw [dif_pos h]
theorem oneM_list (s : ByteArray) (k : Nat) : oneM s k = oneL (s.data.toList.drop k) := by
  by_cases h : k < s.size
  · have e1 : ∀ p, spanAt p s k = spanN p (s.data.toList.drop k) := fun p => by unfold spanAt; rfl
    have e2 : ∀ n, textAt s k n = (s.data.toList.drop k).take n := fun n => rfl
    have e3 : ∀ n, letAt s (k + n) = letO ((s.data.toList.drop k)[n]?) := fun n => by
      rw [List.getElem?_drop]
      by_cases hn : k + n < s.size
      · rw [letAt_in0 s hn, List.getElem?_eq_getElem (by rw [len_data]; exact hn)]; rfl
      · unfold letAt; rw [dif_neg hn, List.getElem?_eq_none (by rw [len_data]; omega)]; rfl
    unfold oneM
    rw [dif_pos h]
    simp only [e1, e2, e3]
    rw [drop_at s h]
    rfl
  · rw [List.drop_eq_nil_of_le (by rw [len_data]; omega)]
    unfold oneM
    rw [dif_neg h]
    rfl
theorem spanN_eq (p : UInt8 → Bool) : ∀ (L : List UInt8) (n : Nat), n ≤ L.length → (∀ c ∈ L.take n, p c = true) → (∀ c, L[n]? = some c → p c = false) → spanN p L = n
  | [], n, h, _, _ => by simp at h; subst h; rfl
  | c :: r, 0, _, _, h => by
    rw [spanN_cons]
    rw [if_neg (by rw [h c rfl]; simp)]
  | c :: r, n + 1, h, h1, h2 => by
    rw [spanN_cons]
    rw [if_pos (h1 c (by simp)), spanN_eq p r n (by simpa using h) (fun d hd => h1 d (by rw [List.take_succ_cons]; exact List.mem_cons_of_mem _ hd)) (fun d hd => h2 d (by simpa using hd))]
theorem spanN_stop (p : UInt8 → Bool) : ∀ (L : List UInt8) (c : UInt8), L[spanN p L]? = some c → p c = false
  | [], c, h => by simp at h
  | d :: r, c, h => by
    rw [spanN_cons] at h
    split at h
    · exact spanN_stop p r c (by simpa using h)
    · rename_i hd
      simp at h
      subst h
      simpa using hd
theorem dig_nam {c : UInt8} (h : namB c = false) : digB c = false ∧ letB c = false := by
  unfold namB at h
  cases hl : letB c <;> cases hd : digB c <;> simp_all
theorem low_nam {c : UInt8} (h : lowB c = true) : namB c = true := by
  unfold namB
  rw [show letB c = (lowB c || ((c.toNat : Int) == 95)) from rfl, h]
  rfl
theorem pre_take (L L' : List UInt8) (h : L'.take 2 = L.take 2) (hp : Lib.hasPrefix L [62, 62] = true) : Lib.hasPrefix L' [62, 62] = true := by
  unfold Lib.hasPrefix at hp ⊢
  rw [List.isPrefixOf_iff_prefix, List.prefix_iff_eq_take] at hp ⊢
  simp only [List.length_cons, List.length_nil] at hp ⊢
  rw [hp]
  exact h.symm
theorem sign_no {c : UInt8} (h : signB c = true) : c ≠ 62 := by
  rintro rfl
  revert h
  decide
theorem pre_no {c : UInt8} {r : List UInt8} (h : c ≠ 62) : Lib.hasPrefix (c :: r) [62, 62] = false := by
  unfold Lib.hasPrefix
  simp only [List.isPrefixOf]
  have : ((62 : UInt8) == c) = false := by rw [beq_eq_false_iff_ne]; exact fun e => h e.symm
  rw [this]
  rfl
/-- What is a token hangs on its own bytes and on what stands behind it alone. -/
theorem one_local {L L' : List UInt8} {t n v : Nat} (h : oneL L = some (t, n, v)) (ht : L'.take n = L.take n) (hn : n ≤ L'.length) (hs : ∀ c, L'[n]? = some c → namB c = false ∨ L[n]? = some c) : oneL L' = some (t, n, v) := by
  cases L with
  | nil => cases h
  | cons c r =>
    have key : ∀ m : Nat, n = m + 1 → ∃ r', L' = c :: r' := by
      intro m hm
      subst hm
      cases L' with
      | nil => simp at hn
      | cons c' r' =>
        rw [List.take_succ_cons, List.take_succ_cons] at ht
        injection ht with h1 h2
        exact ⟨r', by rw [h1]⟩
    rw [oneL_cons] at h
    split at h
    · rename_i hd
      split at h
      · rename_i hc
        injection h with h
        injection h with e1 h
        injection h with e2 e3
        have hall := spanN_all digB (c :: r)
        have hstop := spanN_stop digB (c :: r)
        obtain ⟨r', rfl⟩ := key (spanN digB r) (by rw [← e2]; rw [spanN_cons, if_pos hd])
        rw [e2] at hall hstop hc e3
        have hsp : spanN digB (c :: r') = n := by
          refine spanN_eq _ _ _ hn (by rw [ht]; exact hall) fun d hdd => ?_
          rcases hs d hdd with h1 | h1
          · exact (dig_nam h1).1
          · exact hstop d h1
        have hlast : letO ((c :: r')[n]?) = false := by
          cases hx : (c :: r')[n]? with
          | none => rfl
          | some d =>
            rcases hs d hx with h1 | h1
            · exact (dig_nam h1).2
            · rw [← h1]; exact hc.2.2
        rw [oneL_cons]
        rw [if_pos hd, hsp, ht, if_pos ⟨hc.1, hc.2.1, hlast⟩, e1, e3]
      · cases h
    · rename_i hd
      split at h
      · rename_i hl
        split at h
        · rename_i hc
          injection h with h
          injection h with e1 h
          injection h with e2 e3
          have hall := spanN_all namB (c :: r)
          have hstop := spanN_stop namB (c :: r)
          obtain ⟨r', rfl⟩ := key (spanN namB r) (by rw [← e2]; rw [spanN_cons, if_pos (low_nam hl)])
          rw [e2] at hall hstop hc e1
          have hsp : spanN namB (c :: r') = n := by
            refine spanN_eq _ _ _ hn (by rw [ht]; exact hall) fun d hdd => ?_
            rcases hs d hdd with h1 | h1
            · exact h1
            · exact hstop d h1
          rw [oneL_cons]
          rw [if_neg hd, if_pos hl, hsp, ht, if_pos hc, e1, e3]
        · cases h
      · rename_i hl
        split at h
        · rename_i hp
          injection h with h
          injection h with e1 h
          injection h with e2 e3
          obtain ⟨r', rfl⟩ := key 1 (by rw [← e2])
          have hp' := pre_take (c :: r) (c :: r') (by rw [← e2] at ht; exact ht) hp
          rw [oneL_cons]
          rw [if_neg hd, if_neg hl, if_pos hp', e1, e2, e3]
        · rename_i hp
          split at h
          · rename_i hg
            injection h with h
            injection h with e1 h
            injection h with e2 e3
            obtain ⟨r', rfl⟩ := key 0 (by rw [← e2])
            rw [oneL_cons]
            rw [if_neg hd, if_neg hl, if_neg (by rw [pre_no (sign_no hg)]; simp), if_pos hg, e1, e2, e3]
          · cases h
theorem tok_char {c : UInt8} (h : digB c = true ∨ lowB c = true ∨ c = 62 ∨ signB c = true) : c.toNat ≠ 35 ∧ blankB c = false := by
  rcases h with h | h | h | h
  · have := (digB_iff c).1 h
    unfold blankB
    simp
    omega
  · unfold lowB at h
    unfold blankB
    simp at h ⊢
    omega
  · subst h; decide
  · unfold signB at h
    rw [List.contains_iff_mem] at h
    unfold signL at h
    simp only [List.mem_cons, List.not_mem_nil, or_false] at h
    rcases h with h | h | h | h | h | h | h | h | h | h | h | h <;> subst h <;> decide
theorem one_pos {L : List UInt8} {t n v : Nat} (h : oneL L = some (t, n, v)) : 1 ≤ n ∧ n ≤ L.length ∧ skipN false L = 0 ∧ v < 18446744073709551616 := by
  cases L with
  | nil => cases h
  | cons c r =>
    have hz : (digB c = true ∨ lowB c = true ∨ c = 62 ∨ signB c = true) → skipN false (c :: r) = 0 := fun hh => by
      obtain ⟨h1, h2⟩ := tok_char hh
      rw [skipN, if_neg h1, if_neg (by rw [h2]; simp)]
    rw [oneL_cons] at h
    split at h
    · rename_i hd
      split at h
      · rename_i hc
        injection h with h
        injection h with e1 h
        injection h with e2 e3
        refine ⟨?_, ?_, hz (.inl hd), by rw [← e3]; exact hc.1⟩
        · rw [← e2]; rw [spanN_cons, if_pos hd]; omega
        · rw [← e2]; exact spanN_le _ _
      · cases h
    · split at h
      · rename_i hl
        split at h
        · injection h with h
          injection h with e1 h
          injection h with e2 e3
          refine ⟨?_, ?_, hz (.inr (.inl hl)), by omega⟩
          · rw [← e2]; rw [spanN_cons, if_pos (low_nam hl)]; omega
          · rw [← e2]; exact spanN_le _ _
        · cases h
      · split at h
        · rename_i hp
          injection h with h
          injection h with e1 h
          injection h with e2 e3
          have hc : c = 62 := by
            by_cases e : c = 62
            · exact e
            · rw [pre_no e] at hp; cases hp
          unfold Lib.hasPrefix at hp
          rw [List.isPrefixOf_iff_prefix] at hp
          have hl := hp.length_le
          simp at hl
          exact ⟨by omega, by simp; omega, hz (.inr (.inr (.inl hc))), by omega⟩
        · split at h
          · rename_i hg
            injection h with h
            injection h with e1 h
            injection h with e2 e3
            exact ⟨by omega, by simp; omega, hz (.inr (.inr (.inr hg))), by omega⟩
          · cases h
/-- These are the tokens of a text from here on; p: where it stands. -/
inductive Toks : Nat → List UInt8 → List Tok → Prop
  | done (p : Nat) (L : List UInt8) (h : skipN false L = L.length) : Toks p L []
  | tok (p : Nat) (L : List UInt8) (t n v : Nat) (r : List Tok) (h : skipN false L < L.length) (h1 : oneL (L.drop (skipN false L)) = some (t, n, v))
      (h2 : Toks (p + skipN false L + n) (L.drop (skipN false L + n)) r) : Toks p L (⟨t, ⟨((L.drop (skipN false L)).take n).toArray⟩, v, p + skipN false L⟩ :: r)
theorem ext_text (s : ByteArray) (k n : Nat) : s.extract k (k + n) = ⟨((s.data.toList.drop k).take n).toArray⟩ := by
  apply ByteArray.ext
  apply Array.ext'
  rw [textAt_extract]
  rfl
theorem skipAt_list (s : ByteArray) (k : Nat) : skipAt s false k = k + skipN false (s.data.toList.drop k) := skipAt_eq s false k
theorem scan_to (s : ByteArray) : ∀ (f k : Nat) (acc l : List Tok), k ≤ s.size → s.size - skipAt s false k < f → acc.length ≤ 512 → scanGo f s (skipAt s false k) acc = .toks l →
    ∃ r, l = acc ++ r ++ [endTok s] ∧ Toks k (s.data.toList.drop k) r ∧ acc.length + r.length ≤ 512 := by
  intro f
  induction f with
  | zero => intro k acc l _ h; omega
  | succ f ih =>
    intro k acc l hk hf ha h
    obtain ⟨b1, b2⟩ := skipAt_le s false hk
    have hj := skipAt_list s k
    by_cases hlt : skipAt s false k < s.size
    · cases ho : oneM s (skipAt s false k) with
      | none => rw [scanGo_bad hlt ho] at h; cases h
      | some x =>
        obtain ⟨t, n, v⟩ := x
        obtain ⟨n1, n2, n3, n4⟩ := oneM_bounds ho
        by_cases hfull : acc.length = 512
        · rw [scanGo_full hlt ho hfull] at h; cases h
        · rw [scanGo_step hlt ho hfull] at h
          obtain ⟨c1, c2⟩ := skipAt_le s false n2
          obtain ⟨r, e, ht, hl⟩ := ih _ _ _ n2 (by omega) (by rw [List.length_append]; simp; omega) h
          rw [oneM_list] at ho
          rw [hj] at ho ht e n2
          have hlen : (s.data.toList.drop k).length = s.size - k := by rw [List.length_drop, len_data]
          refine ⟨⟨t, ⟨(((s.data.toList.drop k).drop (skipN false (s.data.toList.drop k))).take n).toArray⟩, v, k + skipN false (s.data.toList.drop k)⟩ :: r, ?_, ?_, ?_⟩
          · rw [e, ext_text, List.drop_drop]
            simp
          · refine Toks.tok k _ t n v r (by omega) (by rw [List.drop_drop]; exact ho) ?_
            rw [List.drop_drop, ← Nat.add_assoc]
            exact ht
          · rw [List.length_append] at hl
            simp at hl ⊢
            omega
    · rw [scanGo_end hlt] at h
      injection h with h
      refine ⟨[], by rw [← h]; simp, Toks.done _ _ ?_, by simpa using ha⟩
      rw [List.length_drop, len_data]
      omega
theorem scan_of (s : ByteArray) {k : Nat} {L : List UInt8} {r : List Tok} (ht : Toks k L r) : L = s.data.toList.drop k → k ≤ s.size → ∀ (f : Nat) (acc : List Tok), acc.length + r.length ≤ 512 → s.size - skipAt s false k < f →
    scanGo f s (skipAt s false k) acc = .toks (acc ++ r ++ [endTok s]) := by
  induction ht with
  | done p L h =>
    intro hL hk f acc ha hf
    obtain ⟨f, rfl⟩ : ∃ g, f = g + 1 := ⟨f - 1, by omega⟩
    have hj := skipAt_list s p
    rw [← hL, h, hL, List.length_drop, len_data] at hj
    rw [scanGo_end (by omega)]
    simp
  | tok p L t n v r h h1 h2 ih =>
    intro hL hk f acc ha hf
    obtain ⟨f, rfl⟩ : ∃ g, f = g + 1 := ⟨f - 1, by omega⟩
    have hj := skipAt_list s p
    rw [← hL] at hj
    have hlen : L.length = s.size - p := by rw [hL, List.length_drop, len_data]
    have ho : oneM s (skipAt s false p) = some (t, n, v) := by
      rw [oneM_list, hj, ← List.drop_drop, ← hL]
      exact h1
    obtain ⟨n1, n2, n3, n4⟩ := oneM_bounds ho
    obtain ⟨c1, c2⟩ := skipAt_le s false n2
    simp only [List.length_cons] at ha
    rw [scanGo_step (by omega) ho (by omega)]
    have e := ih (by rw [hL, List.drop_drop, ← Nat.add_assoc]) (by omega) f (acc ++ [⟨t, s.extract (skipAt s false p) (skipAt s false p + n), v, skipAt s false p⟩]) (by rw [List.length_append]; simp; omega) (by rw [← hj]; omega)
    rw [← hj] at e
    rw [e, ext_text, hj, ← List.drop_drop, ← hL]
    simp
theorem scan_full (s : ByteArray) {k : Nat} {L : List UInt8} {r : List Tok} (ht : Toks k L r) : L = s.data.toList.drop k → k ≤ s.size → ∀ (f : Nat) (acc r1 r2 : List Tok) (t : Tok), r = r1 ++ t :: r2 → acc.length + r1.length = 512 → s.size - skipAt s false k < f →
    scanGo f s (skipAt s false k) acc = .err 5 t.pos := by
  induction ht with
  | done p L h =>
    intro hL hk f acc r1 r2 t e ha hf
    simp at e
  | tok p L t n v r h h1 h2 ih =>
    intro hL hk f acc r1 r2 t' e ha hf
    obtain ⟨f, rfl⟩ : ∃ g, f = g + 1 := ⟨f - 1, by omega⟩
    have hj := skipAt_list s p
    rw [← hL] at hj
    have hlen : L.length = s.size - p := by rw [hL, List.length_drop, len_data]
    have ho : oneM s (skipAt s false p) = some (t, n, v) := by
      rw [oneM_list, hj, ← List.drop_drop, ← hL]
      exact h1
    obtain ⟨n1, n2, n3, n4⟩ := oneM_bounds ho
    obtain ⟨c1, c2⟩ := skipAt_le s false n2
    cases r1 with
    | nil =>
      simp at e ha
      rw [scanGo_full (by omega) ho ha, ← e.1, hj]
    | cons x r1 =>
      simp at e ha
      rw [scanGo_step (by omega) ho (by omega)]
      have e2 := ih (by rw [hL, List.drop_drop, ← Nat.add_assoc]) (by omega) f (acc ++ [⟨t, s.extract (skipAt s false p) (skipAt s false p + n), v, skipAt s false p⟩]) r1 r2 t' e.2 (by rw [List.length_append]; simp; omega) (by rw [← hj]; omega)
      rw [← hj] at e2
      exact e2
theorem scanM_iff {s : ByteArray} {l : List Tok} (h : scanM s = .toks l) : ∃ r, l = r ++ [endTok s] ∧ Toks 0 s.data.toList r ∧ r.length ≤ 512 ∧ s.size ≤ 4096 := by
  unfold scanM at h
  split at h
  · cases h
  · obtain ⟨b1, b2⟩ := skipAt_le s false (Nat.zero_le s.size)
    obtain ⟨r, e, ht, hl⟩ := scan_to s _ 0 [] l (by omega) (by omega) (by simp) h
    exact ⟨r, by simpa using e, by simpa using ht, by simpa using hl, by omega⟩
theorem scanM_of {s : ByteArray} {r : List Tok} (hs : s.size ≤ 4096) (ht : Toks 0 s.data.toList r) (hr : r.length ≤ 512) : scanM s = .toks (r ++ [endTok s]) := by
  unfold scanM
  rw [if_neg (by omega)]
  obtain ⟨b1, b2⟩ := skipAt_le s false (Nat.zero_le s.size)
  have := scan_of s ht (by simp) (by omega) (s.size + 1) [] (by simpa using hr) (by omega)
  simpa using this
theorem scanM_full {s : ByteArray} {r1 r2 : List Tok} {t : Tok} (hs : s.size ≤ 4096) (ht : Toks 0 s.data.toList (r1 ++ t :: r2)) (hr : r1.length = 512) : scanM s = .err 5 t.pos := by
  unfold scanM
  rw [if_neg (by omega)]
  obtain ⟨b1, b2⟩ := skipAt_le s false (Nat.zero_le s.size)
  exact scan_full s ht (by simp) (by omega) (s.size + 1) [] r1 r2 t rfl (by simpa using hr) (by omega)
theorem skip_ext (R : List UInt8) : ∀ (L : List UInt8) (b : Bool), skipN b L = L.length → skipN b (L ++ 10 :: R) = L.length + 1 + skipN false R := by
  intro L
  induction L with
  | nil =>
    intro b _
    cases b with
    | true => rw [List.nil_append, skipN, if_pos (by decide)]; simp; omega
    | false => rw [List.nil_append, skipN, if_neg (by decide), if_pos (by decide)]; simp; omega
  | cons c r ih =>
    intro b h
    cases b with
    | true =>
      rw [skipN] at h
      rw [List.cons_append, skipN]
      split at h
      · rename_i hc
        rw [if_pos hc, ih false (by simpa using h)]; simp; omega
      · rename_i hc
        rw [if_neg hc, ih true (by simpa using h)]; simp; omega
    | false =>
      rw [skipN] at h
      rw [List.cons_append, skipN]
      split at h
      · rename_i hc
        rw [if_pos hc, ih true (by simpa using h)]; simp; omega
      · rename_i hc
        split at h
        · rename_i hb
          rw [if_neg hc, if_pos hb, ih false (by simpa using h)]; simp; omega
        · simp at h
theorem skip_more (R : List UInt8) : ∀ (L : List UInt8) (b : Bool), skipN b L < L.length → skipN b (L ++ R) = skipN b L := by
  intro L
  induction L with
  | nil => intro b h; simp at h
  | cons c r ih =>
    intro b h
    cases b with
    | true =>
      rw [skipN] at h
      rw [List.cons_append, skipN, skipN]
      split at h
      · rename_i hc
        rw [if_pos hc, if_pos hc, ih false (by simpa using h)]
      · rename_i hc
        rw [if_neg hc, if_neg hc, ih true (by simpa using h)]
    | false =>
      rw [skipN] at h
      rw [List.cons_append, skipN, skipN]
      split at h
      · rename_i hc
        rw [if_pos hc, if_pos hc, ih true (by simpa using h)]
      · rename_i hc
        split at h
        · rename_i hb
          rw [if_neg hc, if_pos hb, if_neg hc, if_pos hb, ih false (by simpa using h)]
        · rename_i hb
          rw [if_neg hc, if_neg hb, if_neg hc, if_neg hb]
/-- A text that goes on behind an end of line. -/
theorem toks_ext {p : Nat} {L : List UInt8} {r : List Tok} (h : Toks p L r) {R : List UInt8} {t v : Nat} (hr : oneL R = some (t, R.length, v)) : Toks p (L ++ 10 :: R) (r ++ [⟨t, ⟨R.toArray⟩, v, p + L.length + 1⟩]) := by
  obtain ⟨r1, r2, r3, r4⟩ := one_pos hr
  induction h with
  | done p L h =>
    have hs := skip_ext R L false h
    rw [r3, Nat.add_zero] at hs
    have e1 : (L ++ 10 :: R).drop (L.length + 1) = R := by
      rw [List.drop_append]; simp
    have := Toks.tok p (L ++ 10 :: R) t R.length v [] (by rw [hs, List.length_append]; simp; omega) (by rw [hs, e1]; exact hr) (by
      rw [hs, ← List.drop_drop, e1, List.drop_length]
      exact Toks.done _ _ (by rw [skipN_nil]; rfl))
    rw [hs, e1, List.take_length] at this
    rw [Nat.add_assoc]
    exact this
  | tok p L t' n v' r h h1 h2 ih =>
    have hs := skip_more (10 :: R) L false h
    obtain ⟨o1, o2, o3, o4⟩ := one_pos h1
    rw [List.length_drop] at o2
    have ed : (L ++ 10 :: R).drop (skipN false L) = L.drop (skipN false L) ++ 10 :: R := List.drop_append_of_le_length (by omega)
    have ed2 : (L ++ 10 :: R).drop (skipN false L + n) = L.drop (skipN false L + n) ++ 10 :: R := List.drop_append_of_le_length (by omega)
    have et : (L.drop (skipN false L) ++ 10 :: R).take n = (L.drop (skipN false L)).take n := List.take_append_of_le_length (by rw [List.length_drop]; omega)
    have ho : oneL (L.drop (skipN false L) ++ 10 :: R) = some (t', n, v') := by
      refine one_local h1 et (by rw [List.length_append, List.length_drop]; omega) fun c hc => ?_
      by_cases hn : n < (L.drop (skipN false L)).length
      · rw [List.getElem?_append_left hn] at hc; exact .inr hc
      · rw [List.getElem?_append_right (by omega), show n - (L.drop (skipN false L)).length = 0 from by rw [List.length_drop] at hn ⊢; omega] at hc
        simp at hc
        subst hc
        exact .inl (by decide)
    have := Toks.tok p (L ++ 10 :: R) t' n v' _ (by rw [hs, List.length_append]; omega) (by rw [hs, ed]; exact ho) (by rw [hs, ed2]; exact ih)
    rw [hs, ed, et] at this
    rw [List.length_drop, show p + skipN false L + n + (L.length - (skipN false L + n)) + 1 = p + L.length + 1 from by omega] at this
    exact this
/-- A token's own bytes make it, whatever stands behind, if that is no part of a name. -/
def GoodT (t : Tok) : Prop := 1 ≤ t.text.size ∧ t.num < 18446744073709551616 ∧ ∀ R : List UInt8, (∀ c, R[0]? = some c → namB c = false) → oneL (t.text.data.toList ++ R) = some (t.kind, t.text.size, t.num)
theorem toks_good {p : Nat} {L : List UInt8} {r : List Tok} (h : Toks p L r) : ∀ t ∈ r, GoodT t := by
  induction h with
  | done p L h => intro t ht; simp at ht
  | tok p L t n v r h h1 h2 ih =>
    intro x hx
    rcases List.mem_cons.1 hx with rfl | hx
    · obtain ⟨o1, o2, o3, o4⟩ := one_pos h1
      have hl : ((L.drop (skipN false L)).take n).length = n := by rw [List.length_take]; omega
      have hsz : ByteArray.size ⟨((L.drop (skipN false L)).take n).toArray⟩ = n := hl
      refine ⟨?_, o4, fun R hR => ?_⟩
      · show 1 ≤ ByteArray.size ⟨((L.drop (skipN false L)).take n).toArray⟩
        rw [hsz]; exact o1
      · show oneL ((L.drop (skipN false L)).take n ++ R) = some (t, ByteArray.size ⟨((L.drop (skipN false L)).take n).toArray⟩, v)
        rw [hsz]
        refine one_local h1 ?_ (by rw [List.length_append, hl]; omega) fun c hc => .inl (hR c ?_)
        · rw [List.take_append_of_le_length (by omega), List.take_take, Nat.min_self]
        · rw [List.getElem?_append_right (by omega), hl, Nat.sub_self] at hc
          exact hc
    · exact ih x hx
theorem toks_pos {p : Nat} {L : List UInt8} {r : List Tok} (h : Toks p L r) : ∀ t ∈ r, p ≤ t.pos ∧ t.pos + t.text.size ≤ p + L.length ∧ (L.drop (t.pos - p)).take t.text.size = t.text.data.toList := by
  induction h with
  | done p L h => intro t ht; simp at ht
  | tok p L t n v r h h1 h2 ih =>
    obtain ⟨o1, o2, o3, o4⟩ := one_pos h1
    rw [List.length_drop] at o2
    intro x hx
    rcases List.mem_cons.1 hx with rfl | hx
    · have hl : ((L.drop (skipN false L)).take n).length = n := by rw [List.length_take, List.length_drop]; omega
      have hsz : ByteArray.size ⟨((L.drop (skipN false L)).take n).toArray⟩ = n := hl
      simp only [hsz]
      refine ⟨by omega, by omega, ?_⟩
      rw [show p + skipN false L - p = skipN false L from by omega]
    · obtain ⟨a, b, c⟩ := ih x hx
      rw [List.length_drop] at b
      refine ⟨by omega, by omega, ?_⟩
      rw [List.drop_drop, show skipN false L + n + (x.pos - (p + skipN false L + n)) = x.pos - p from by omega] at c
      exact c
/-- Tokens' texts, each with what stands behind it. -/
def wideL (xs : List (Tok × List UInt8)) : List UInt8 := xs.flatMap fun x => x.1.text.data.toList ++ x.2
def SkipOk (g : List UInt8) : Prop := ∀ R, skipN false (g ++ R) = g.length + skipN false R
def GapOk (g : List UInt8) : Prop := (∃ c g', g = c :: g' ∧ namB c = false) ∧ SkipOk g
def retok : Nat → List (Tok × List UInt8) → List Tok
  | _, [] => []
  | q, x :: xs => ⟨x.1.kind, x.1.text, x.1.num, q⟩ :: retok (q + x.1.text.size + x.2.length) xs
theorem toks_wide (ge : List UInt8) (hge : SkipOk ge) : ∀ (xs : List (Tok × List UInt8)) (p : Nat) (G : List UInt8), SkipOk G → (∀ x ∈ xs, GoodT x.1 ∧ GapOk x.2) → Toks p (G ++ (wideL xs ++ ge)) (retok (p + G.length) xs)
  | [], p, G, hG, _ => by
    refine Toks.done _ _ ?_
    have h1 := hG ge
    have h2 := hge []
    rw [List.append_nil, skipN_nil] at h2
    show skipN false (G ++ ([] ++ ge)) = _
    rw [List.nil_append, h1, h2, List.length_append, show wideL [] ++ ge = ge from rfl, Nat.add_zero]
  | x :: xs, p, G, hG, h => by
    obtain ⟨⟨g1, g2, g3⟩, ⟨c, g', hg, hc⟩, hsk⟩ := h x (by simp)
    have e : wideL (x :: xs) ++ ge = x.1.text.data.toList ++ (x.2 ++ (wideL xs ++ ge)) := by unfold wideL; simp
    have ho := g3 (x.2 ++ (wideL xs ++ ge)) (fun d hd => by
      rw [hg] at hd
      simp at hd
      rw [← hd]; exact hc)
    obtain ⟨o1, o2, o3, o4⟩ := one_pos ho
    have hs := hG (x.1.text.data.toList ++ (x.2 ++ (wideL xs ++ ge)))
    rw [o3, Nat.add_zero] at hs
    have hl := len_data x.1.text
    have e1 : (G ++ (x.1.text.data.toList ++ (x.2 ++ (wideL xs ++ ge)))).drop G.length = x.1.text.data.toList ++ (x.2 ++ (wideL xs ++ ge)) := by simp
    have e2 : (G ++ (x.1.text.data.toList ++ (x.2 ++ (wideL xs ++ ge)))).drop (G.length + x.1.text.size) = x.2 ++ (wideL xs ++ ge) := by
      rw [← List.drop_drop, e1, ← hl]; simp
    have e3 : (⟨((x.1.text.data.toList ++ (x.2 ++ (wideL xs ++ ge))).take x.1.text.size).toArray⟩ : ByteArray) = x.1.text := by
      rw [← hl]; simp
    have ih := toks_wide ge hge xs (p + G.length + x.1.text.size) x.2 hsk (fun y hy => h y (List.mem_cons_of_mem _ hy))
    rw [e]
    have := Toks.tok p (G ++ (x.1.text.data.toList ++ (x.2 ++ (wideL xs ++ ge)))) x.1.kind x.1.text.size x.1.num (retok (p + G.length + x.1.text.size + x.2.length) xs) (by
      rw [hs, List.length_append]
      have : 1 ≤ x.1.text.data.toList.length := by omega
      simp only [List.length_append]; omega) (by rw [hs, e1]; exact ho) (by rw [hs, e2]; exact ih)
    rw [hs, e1, e3] at this
    exact this
theorem retok_nth : ∀ (xs : List (Tok × List UInt8)) (q i : Nat) (x : Tok × List UInt8), xs[i]? = some x → ∃ pos, (retok q xs)[i]? = some ⟨x.1.kind, x.1.text, x.1.num, pos⟩
  | [], q, i, x, h => by simp at h
  | y :: xs, q, 0, x, h => by simp at h; subst h; exact ⟨q, rfl⟩
  | y :: xs, q, i + 1, x, h => retok_nth xs _ i x (by simpa using h)
theorem retok_length : ∀ (xs : List (Tok × List UInt8)) (q : Nat), (retok q xs).length = xs.length
  | [], _ => rfl
  | _ :: xs, _ => by unfold retok; rw [List.length_cons, List.length_cons, retok_length xs]
theorem gap_ok1 : GapOk [32] := ⟨⟨32, [], rfl, by decide⟩, fun R => by simp [skipN, blankB]; omega⟩
theorem gap_ok2 : GapOk [10, 9] := ⟨⟨10, [9], rfl, by decide⟩, fun R => by simp [skipN, blankB]; omega⟩
theorem gap_ok3 : GapOk [32, 35, 32, 97, 32, 49, 32, 10] := ⟨⟨32, _, rfl, by decide⟩, fun R => by simp [skipN, blankB]; omega⟩
theorem gap_ok4 : GapOk [13, 10, 35, 10] := ⟨⟨13, _, rfl, by decide⟩, fun R => by simp [skipN, blankB]; omega⟩
end Go.Proofs.YthnkeejiocnflaaGreatDoor
namespace Go.Proofs.YthnkeejiocnflaaGreatDoor
set_option linter.unusedVariables false
set_option linter.unusedSimpArgs false
open Go.RowKit
theorem one_kind {L : List UInt8} {t n v : Nat} (h : oneL L = some (t, n, v)) : t ≠ 0 := by
  cases L with
  | nil => cases h
  | cons c r =>
    rw [oneL_cons] at h
    split at h
    · split at h
      · injection h with h; injection h with e1 h; omega
      · cases h
    · split at h
      · split at h
        · injection h with h; injection h with e1 h; split at e1 <;> omega
        · cases h
      · split at h
        · injection h with h; injection h with e1 h; omega
        · split at h
          · injection h with h; injection h with e1 h; omega
          · cases h
theorem toks_kind {p : Nat} {L : List UInt8} {r : List Tok} (h : Toks p L r) : ∀ t ∈ r, t.kind ≠ 0 := by
  induction h with
  | done p L h => intro t ht; simp at ht
  | tok p L t n v r h h1 h2 ih =>
    intro x hx
    rcases List.mem_cons.1 hx with rfl | hx
    · exact one_kind h1
    · exact ih x hx
theorem shapeLoop_er (L : List Tok) : ∀ (f : Nat) (s : PS) (l : List Nat), Er s (shapeLoopP L f s l).1 := by
  intro f
  induction f with
  | zero => intro s l; exact Er.refl s
  | succ f ih =>
    intro s l
    rw [shapeLoopP]
    split
    · exact (Er.adv.trans Er.number).trans (ih _ _)
    · exact Er.want _
theorem shape_er (L : List Tok) (f : Nat) (s : PS) : Er s (shapeP L f s).1 := by
  unfold shapeP
  dsimp only
  split
  · exact (Er.want _).trans Er.adv
  · exact ((Er.want _).trans Er.number).trans (shapeLoop_er L f _ _)
theorem body_i {L : List Tok} {f : Nat} {s : PS} (h : (bodyP L f s).1.err = none) : s.i + 1 ≤ (bodyP L f s).1.i := by
  unfold bodyP at h ⊢
  split
  · rename_i h1; rw [if_pos h1] at h; exact absurd h (fail_some _ _ _)
  · rename_i h1
    rw [if_neg h1] at h
    split
    · rename_i h2
      exact (((G.number (L := L) (advP s)).trans (G.name _)).trans (shape_G f _)).hi
    · rename_i h2
      rw [if_neg h2] at h
      split
      · exact (((G.name (L := L) (advP s)).trans (G.want _ _)).trans ((allG L f).expr _)).hi
      · rename_i h3
        rw [if_neg h3] at h
        split
        · exact (G.name (L := L) (advP s)).hi
        · rename_i h4
          rw [if_neg h4] at h
          exact absurd h (fail_some _ _ _)
section
variable {A B : List Tok} {m : Nat} {s : PS}
theorem shapeLoop_eq (h : Agr A B m) : ∀ (f : Nat) (s : PS) (l : List Nat), s.i ≤ m → Fin m (shapeLoopP A f s l).1 → shapeLoopP B f s l = shapeLoopP A f s l := by
  intro f
  induction f with
  | zero => intro s l _ _; rfl
  | succ f ih =>
    intro s l hs hf
    rw [shapeLoopP] at hf
    rw [shapeLoopP, shapeLoopP]
    cases hq : isP A s tComma with
    | true =>
      rw [hq] at hf
      simp only [if_true] at hf
      have h1 := hf.back (shape_ss f f _ _) (shapeLoop_er A f _ _)
      obtain ⟨h3, h4⟩ := (h1.back (G.number _) Er.number).adv
      rw [is_eq h hs tComma (fun _ => h4), hq]
      simp only [if_true]
      rw [(number_eq h h1).1, ih _ _ h1.2 hf]
    | false =>
      rw [hq] at hf
      have h1 : Fin m (wantP A s tKet) := hf
      rw [is_eq h hs tComma (fun hx => by rw [hq] at hx; cases hx), hq]
      simp only [Bool.false_eq_true, if_false]
      rw [(want_eq h tKet h1).1]
theorem shape_eq (h : Agr A B m) (f : Nat) (s : PS) (hf : Fin m (shapeP A f s).1) : shapeP B f s = shapeP A f s := by
  unfold shapeP at hf ⊢
  dsimp only at hf ⊢
  cases hq : isP A (wantP A s tBra) tKet with
  | true =>
    rw [hq] at hf
    have h1 : Fin m (advP (wantP A s tBra)) := hf
    obtain ⟨h2, h3⟩ := h1.adv
    rw [(want_eq h tBra h2).1, is_eq h h2.2 tKet (fun _ => h3), hq]
    rfl
  | false =>
    rw [hq] at hf
    have h0 : Fin m (shapeLoopP A f (numberP A (wantP A s tBra)).1 [(numberP A (wantP A s tBra)).2]).1 := hf
    have h1 := h0.back (shape_ss f f _ _) (shapeLoop_er A f _ _)
    have h2 := h1.back (G.number _) Er.number
    rw [(want_eq h tBra h2).1, is_eq h h2.2 tKet (fun hx => by rw [hq] at hx; cases hx), hq]
    simp only [Bool.false_eq_true, if_false]
    rw [(number_eq h h1).1, shapeLoop_eq h f _ _ h1.2 h0]
theorem body_eq (h : Agr A B m) (f : Nat) (s : PS) (hf : Fin m (bodyP A f s).1) : bodyP B f s = bodyP A f s := by
  have hi := body_i hf.1
  have hlt : s.i < m := by have := hf.2; omega
  unfold bodyP at hf ⊢
  rw [now_eq h hlt, is_eq h (Nat.le_of_lt hlt) tInput (fun _ => hlt), is_eq h (Nat.le_of_lt hlt) tLet (fun _ => hlt), is_eq h (Nat.le_of_lt hlt) tOutput (fun _ => hlt)]
  split
  · rename_i h1; rw [if_pos h1] at hf; exact absurd hf.1 (fail_some _ _ _)
  · rename_i h1
    rw [if_neg h1] at hf
    split
    · rename_i h2
      rw [if_pos h2] at hf
      have h3 : Fin m (shapeP A f (nameP A (numberP A (advP s)).1).1).1 := hf
      have h4 := h3.back (shape_G f _) (shape_er A f _)
      have h5 := h4.back (G.name _) Er.name
      dsimp only
      rw [(number_eq h h5).1, (name_eq h h4).1, shape_eq h f _ h3]
    · rename_i h2
      rw [if_neg h2] at hf
      split
      · rename_i h3
        rw [if_pos h3] at hf
        have h4 : Fin m (exprP A f (wantP A (nameP A (advP s)).1 tEq)).1 := hf
        have h5 := h4.back ((allG A f).expr _) ((allE A f).expr _)
        have h6 := h5.back (G.want _ _) (Er.want _)
        dsimp only
        rw [(name_eq h h6).1, (want_eq h tEq h5).1, (allL h f).expr _ h5.2 h4]
      · rename_i h3
        rw [if_neg h3] at hf
        split
        · rename_i h4
          rw [if_pos h4] at hf
          have h5 : Fin m (nameP A (advP s)).1 := hf
          rw [(name_eq h h5).1]
        · rename_i h4
          rw [if_neg h4] at hf
          exact absurd hf.1 (fail_some _ _ _)
theorem body_er (L : List Tok) (f : Nat) (s : PS) : Er s (bodyP L f s).1 := by
  unfold bodyP
  split
  · exact Er.fail _
  · split
    · exact ((Er.adv.trans Er.number).trans Er.name).trans (shape_er L f _)
    · split
      · exact ((Er.adv.trans Er.name).trans (Er.want _)).trans ((allE L f).expr _)
      · split
        · exact Er.adv.trans Er.name
        · exact Er.fail _
theorem loop_er (L : List Tok) (f : Nat) : ∀ (n : Nat) (s : PS), Er s (parseLoopP L n f s) := by
  intro n
  induction n with
  | zero => intro s; exact Er.refl s
  | succ n ih =>
    intro s
    unfold parseLoopP
    split
    · have h1 : Er s (stmtP L f s) := fun hx => ((body_er L f s).trans (Er.want tSemi)) hx
      exact h1.trans (ih _)
    · exact Er.refl s
/-- The loop has come to its end. -/
theorem loop_end (L : List Tok) (f : Nat) : ∀ (n : Nat) (s : PS), s.i ≤ L.length → 2 * (L.length - s.i) + errN s ≤ n → (parseLoopP L n f s).err ≠ none ∨ (nowP L (parseLoopP L n f s)).kind = 0 := by
  intro n
  induction n with
  | zero =>
    intro s hs hn
    left
    show s.err ≠ none
    intro he
    unfold errN at hn
    rw [if_pos he] at hn
    omega
  | succ n ih =>
    intro s hs hn
    by_cases hc : s.err = none ∧ (nowP L s).kind ≠ 0
    · have e : parseLoopP L (n + 1) f s = parseLoopP L n f (stmtP L f s) := by
        show (if s.err.isNone && (nowP L s).kind != 0 then parseLoopP L n f (stmtP L f s) else s) = _
        rw [if_pos (by rw [hc.1]; simp only [Option.isNone_none, Bool.true_and, bne_iff_ne]; exact hc.2)]
      rw [e]
      obtain ⟨i1, i2, i3, i4⟩ := stmt_i (L := L) f s
      refine ih _ (i3 hs) ?_
      have h1 : errN s = 1 := by unfold errN; rw [if_pos hc.1]
      by_cases hx : (stmtP L f s).err = none
      · have h2 := i2 hx
        have h3 := i3 hs
        have : errN (stmtP L f s) = 1 := by unfold errN; rw [if_pos hx]
        omega
      · have : errN (stmtP L f s) = 0 := by unfold errN; rw [if_neg hx]
        omega
    · have hd : s.err ≠ none ∨ (nowP L s).kind = 0 := by
        by_cases he : s.err = none
        · right
          by_cases hk : (nowP L s).kind = 0
          · exact hk
          · exact absurd ⟨he, hk⟩ hc
        · exact .inl he
      rw [loop_done _ _ _ hd]
      exact hd
/-- The cut list is told as wrong at its end. -/
theorem cut_loop (h : Agr A B m) (hfin : ∀ s : PS, s.i = m → (nowP B s).kind = 0) (q : Nat) (hq : ∀ s : PS, s.i = m → (nowP B s).pos = q) (hA1 : ∀ s : PS, s.i ≤ m → (nowP A s).kind ≠ 0) (hA2 : ∀ s : PS, m + 1 ≤ s.i → (nowP A s).kind = 0) (f : Nat) :
    ∀ (n : Nat) (s : PS), s.err = none → s.i ≤ m → (parseLoopP A n f s).err = none → (nowP A (parseLoopP A n f s)).kind = 0 → (parseLoopP B n f s).err = some (130, q) := by
  intro n
  induction n with
  | zero => intro s he hs h1 h2; exact absurd h2 (hA1 s hs)
  | succ n ih =>
    intro s he hs h1 h2
    have eA : parseLoopP A (n + 1) f s = parseLoopP A n f (stmtP A f s) := by
      show (if s.err.isNone && (nowP A s).kind != 0 then parseLoopP A n f (stmtP A f s) else s) = _
      rw [if_pos (by rw [he]; simp only [Option.isNone_none, Bool.true_and, bne_iff_ne]; exact hA1 s hs)]
    rw [eA] at h1 h2
    have he1 : (stmtP A f s).err = none := loop_er A f n _ h1
    have hst : stmtP A f s = putS (wantP A (bodyP A f s).1 tSemi) (bodyP A f s).2 := rfl
    have hw : (wantP A (bodyP A f s).1 tSemi).err = none := by rw [hst] at he1; exact he1
    have hwi := want_none hw
    have hbe : (bodyP A f s).1.err = none := Er.want tSemi hw
    have hbi := body_i hbe
    have hsi : (stmtP A f s).i = (bodyP A f s).1.i + 1 := by rw [hst]; exact hwi
    have hisA : isP A (bodyP A f s).1 tSemi = true := by
      cases hx : isP A (bodyP A f s).1 tSemi with
      | true => rfl
      | false =>
        have : wantP A (bodyP A f s).1 tSemi = failP A (bodyP A f s).1 130 := by unfold wantP; rw [hx]; rfl
        rw [this] at hw
        exact absurd hw (fail_some _ _ _)
    have hbm : (bodyP A f s).1.i ≤ m := by
      by_cases hx : (bodyP A f s).1.i ≤ m
      · exact hx
      · have := hA2 (bodyP A f s).1 (by omega)
        have := (isP_kind hisA).2.1
        omega
    have hfb : Fin m (bodyP A f s).1 := ⟨hbe, hbm⟩
    have hbeq := body_eq h f s hfb
    have hlt : s.i < m := by omega
    have eB : parseLoopP B (n + 1) f s = parseLoopP B n f (stmtP B f s) := by
      show (if s.err.isNone && (nowP B s).kind != 0 then parseLoopP B n f (stmtP B f s) else s) = _
      rw [if_pos (by rw [he, now_eq h hlt]; simp only [Option.isNone_none, Bool.true_and, bne_iff_ne]; exact hA1 s hs)]
    rw [eB]
    have hstB : stmtP B f s = putS (wantP B (bodyP A f s).1 tSemi) (bodyP A f s).2 := by
      show putS (wantP B (bodyP B f s).1 tSemi) (bodyP B f s).2 = _
      rw [hbeq]
    by_cases hm : (bodyP A f s).1.i < m
    · have hweq := (want_eq h tSemi (show Fin m (wantP A (bodyP A f s).1 tSemi) from ⟨hw, by omega⟩)).1
      have e : stmtP B f s = stmtP A f s := by rw [hstB, hweq, hst]
      rw [e]
      exact ih _ he1 (by omega) h1 h2
    · have hbm2 : (bodyP A f s).1.i = m := by omega
      have hisB : isP B (bodyP A f s).1 tSemi = false := by
        cases hx : isP B (bodyP A f s).1 tSemi with
        | false => rfl
        | true =>
          have h3 := (isP_kind hx).2.1
          rw [hfin _ hbm2] at h3
          omega
      have hwB : wantP B (bodyP A f s).1 tSemi = { (bodyP A f s).1 with err := some (130, q) } := by
        unfold wantP
        rw [hisB]
        simp only [Bool.false_eq_true, if_false]
        unfold failP
        rw [hbe, hq _ hbm2]
      have e : stmtP B f s = putS { (bodyP A f s).1 with err := some (130, q) } (bodyP A f s).2 := by rw [hstB, hwB]
      rw [e, loop_done _ _ _ (.inl (by simp [putS]))]
      rfl
end
/-- ParseCut's plain law. -/
theorem cut_law {r0 : List Tok} {t z : Tok} (hr : ∀ x ∈ r0 ++ [t], x.kind ≠ 0) (hz : z.kind = 0) (F : Nat) (hF : 2 * (r0.length + 2) + 1 ≤ F) (hok : (parseP F (r0 ++ [t] ++ [z])).err = none) :
    (parseP F (r0 ++ [z])).err = some (130, z.pos) := by
  have hlen : (r0 ++ [t] ++ [z]).length = r0.length + 2 := by simp
  have hag : Agr (r0 ++ [t] ++ [z]) (r0 ++ [z]) r0.length := by
    refine ⟨fun i hi => ?_, fun s hs => ?_⟩
    · rw [List.append_assoc, List.getElem?_append_left hi, List.getElem?_append_left hi]
    · left
      unfold nowP
      rw [hs, List.getElem?_append_right (Nat.le_refl _), Nat.sub_self]
      exact hz
  have hend := loop_end (r0 ++ [t] ++ [z]) F F startP (Nat.zero_le _) (by show 2 * ((r0 ++ [t] ++ [z]).length - 0) + 1 ≤ F; omega)
  have hk : (nowP (r0 ++ [t] ++ [z]) (parseLoopP (r0 ++ [t] ++ [z]) F F startP)).kind = 0 := by
    rcases hend with h1 | h1
    · exact absurd hok h1
    · exact h1
  refine cut_loop hag (fun s hs => by unfold nowP; rw [hs, List.getElem?_append_right (Nat.le_refl _), Nat.sub_self]; exact hz) z.pos (fun s hs => ?_) (fun s hs => ?_) (fun s hs => ?_) F F startP rfl (Nat.zero_le _) hok hk
  · unfold nowP
    rw [hs, List.getElem?_append_right (Nat.le_refl _), Nat.sub_self]
    rfl
  · unfold nowP
    rw [List.getElem?_append_left (by simp; omega), List.getElem?_eq_getElem (by simp; omega)]
    exact hr _ (List.getElem_mem _)
  · unfold nowP
    by_cases h1 : s.i = r0.length + 1
    · rw [h1, List.getElem?_append_right (by simp)]
      simp [hz]
    · rw [List.getElem?_eq_none (by rw [hlen]; omega)]
      rfl
/-- A good text with a statement has more than two tokens. -/
theorem ok_len {r : List Tok} {z : Tok} (hz : z.kind = 0) (F : Nat) (h : (parseP F (r ++ [z])).err = none) (hs : (parseP F (r ++ [z])).ss.length ≠ 0) : 2 ≤ r.length := by
  cases F with
  | zero => exact absurd rfl hs
  | succ n =>
    by_cases hk : (nowP (r ++ [z]) startP).kind = 0
    · exfalso
      apply hs
      have e : parseP (n + 1) (r ++ [z]) = startP := loop_done _ _ _ (.inr hk)
      rw [e]
      rfl
    · have e : parseP (n + 1) (r ++ [z]) = parseLoopP (r ++ [z]) n (n + 1) (stmtP (r ++ [z]) (n + 1) startP) := by
        show (if startP.err.isNone && (nowP (r ++ [z]) startP).kind != 0 then parseLoopP (r ++ [z]) n (n + 1) (stmtP (r ++ [z]) (n + 1) startP) else startP) = _
        rw [if_pos]
        show (true && _) = true
        rw [Bool.true_and, bne_iff_ne]
        exact hk
      rw [e] at h
      have he1 : (stmtP (r ++ [z]) (n + 1) startP).err = none := loop_er _ _ n _ h
      have hw : (wantP (r ++ [z]) (bodyP (r ++ [z]) (n + 1) startP).1 tSemi).err = none := he1
      have hbe : (bodyP (r ++ [z]) (n + 1) startP).1.err = none := Er.want tSemi hw
      have hbi := body_i hbe
      have his : isP (r ++ [z]) (bodyP (r ++ [z]) (n + 1) startP).1 tSemi = true := by
        cases hx : isP (r ++ [z]) (bodyP (r ++ [z]) (n + 1) startP).1 tSemi with
        | true => rfl
        | false =>
          have e2 : wantP (r ++ [z]) (bodyP (r ++ [z]) (n + 1) startP).1 tSemi = failP (r ++ [z]) (bodyP (r ++ [z]) (n + 1) startP).1 130 := by unfold wantP; rw [hx]; rfl
          rw [e2] at hw
          exact absurd hw (fail_some _ _ _)
      have hkk := (isP_kind his).2.1
      have h0 : startP.i = 0 := rfl
      by_cases hlt : (bodyP (r ++ [z]) (n + 1) startP).1.i < r.length
      · omega
      · exfalso
        have hz' : (nowP (r ++ [z]) (bodyP (r ++ [z]) (n + 1) startP).1).kind = 0 := by
          unfold nowP
          by_cases he : (bodyP (r ++ [z]) (n + 1) startP).1.i = r.length
          · rw [he, List.getElem?_append_right (Nat.le_refl _), Nat.sub_self]
            exact hz
          · rw [List.getElem?_eq_none (by simp; omega)]
            rfl
        omega
end Go.Proofs.YthnkeejiocnflaaGreatDoor
namespace Go.Proofs.YthnkeejiocnflaaGreatDoor
set_option linter.unusedVariables false
set_option linter.unusedSimpArgs false
open Go.RowKit
/-- The expressions from a up to b are those of l, one behind the other, each behind what it is made of. -/
inductive TrL (es : List Ex) : Nat → Nat → List Nat → Prop
  | nil (a : Nat) : TrL es a a []
  | snoc (a b r : Nat) (l : List Nat) (e : Ex) (h : TrL es a b l) (he : es[r]? = some e) (hr : TrL es b r e.args) : TrL es a (r + 1) (l ++ [r])
theorem TrL.mono {es : List Ex} {a b : Nat} {l : List Nat} (h : TrL es a b l) (x : List Ex) : TrL (es ++ x) a b l := by
  induction h with
  | nil a => exact .nil a
  | snoc a b r l e h he hr ih1 ih2 => exact .snoc a b r l e ih1 (by rw [List.getElem?_append_left (List.getElem?_eq_some_iff.1 he).1]; exact he) ih2
theorem TrL.append {es : List Ex} {a b c : Nat} {l m : List Nat} (h : TrL es a b l) (h' : TrL es b c m) : TrL es a c (l ++ m) := by
  induction h' with
  | nil a => rw [List.append_nil]; exact h
  | snoc b b' r m e h1 he hr ih1 ih2 => rw [← List.append_assoc]; exact .snoc a b' r _ e (ih1 h) he hr
theorem TrL.le {es : List Ex} {a b : Nat} {l : List Nat} (h : TrL es a b l) : a ≤ b ∧ ∀ r ∈ l, a ≤ r ∧ r < b := by
  induction h with
  | nil a => exact ⟨Nat.le_refl _, fun r hr => by cases hr⟩
  | snoc a b r l e h he hr ih1 ih2 =>
    refine ⟨by omega, fun x hx => ?_⟩
    rcases List.mem_append.1 hx with hx | hx
    · have := ih1.2 x hx
      omega
    · rw [List.mem_singleton.1 hx]
      omega
theorem TrL.one {es : List Ex} {a r : Nat} {e : Ex} (he : es[r]? = some e) (hr : TrL es a r e.args) : TrL es a (r + 1) [r] := .snoc a a r [] e (.nil a) he hr
/-- Each that is none of l is what one behind it is made of. -/
theorem TrL.cover {es : List Ex} {a b : Nat} {l : List Nat} (h : TrL es a b l) : ∀ i, a ≤ i → i < b → i ∈ l ∨ ∃ j e, i < j ∧ j < b ∧ es[j]? = some e ∧ i ∈ e.args := by
  induction h with
  | nil a => intro i h1 h2; omega
  | snoc a b r l e h he hr ih1 ih2 =>
    intro i h1 h2
    have hbr := hr.le.1
    by_cases hib : i < b
    · rcases ih1 i h1 hib with hi | ⟨j, e', q1, q2, q3, q4⟩
      · exact .inl (List.mem_append.2 (.inl hi))
      · exact .inr ⟨j, e', q1, by omega, q3, q4⟩
    · by_cases hir : i = r
      · exact .inl (List.mem_append.2 (.inr (by rw [hir]; exact List.mem_singleton.2 rfl)))
      · rcases ih2 i (by omega) (by omega) with hi | ⟨j, e', q1, q2, q3, q4⟩
        · exact .inr ⟨r, e, by omega, by omega, he, hi⟩
        · exact .inr ⟨j, e', q1, by omega, q3, q4⟩
def Gr (s s' : PS) : Prop := ∃ x, s'.es = s.es ++ x
theorem Gr.refl (s : PS) : Gr s s := ⟨[], (List.append_nil _).symm⟩
theorem Gr.of {s s' : PS} (h : s'.es = s.es) : Gr s s' := ⟨[], by rw [h, List.append_nil]⟩
theorem Gr.trans {s s' s'' : PS} (h : Gr s s') (h' : Gr s' s'') : Gr s s'' := by
  obtain ⟨x, hx⟩ := h
  obtain ⟨y, hy⟩ := h'
  exact ⟨x ++ y, by rw [hy, hx, List.append_assoc]⟩
theorem Gr.tr {s s' : PS} (h : Gr s s') {a b : Nat} {l : List Nat} (ht : TrL s.es a b l) : TrL s'.es a b l := by
  obtain ⟨x, hx⟩ := h
  rw [hx]
  exact ht.mono x
section
variable (L : List Tok)
theorem fail_es (s : PS) (c : Nat) : (failP L s c).es = s.es := by unfold failP; split <;> rfl
theorem want_es (s : PS) (t : ByteArray) : (wantP L s t).es = s.es := by
  unfold wantP
  split
  · rfl
  · exact fail_es L s 130
theorem number_es (s : PS) : (numberP L s).1.es = s.es := by
  unfold numberP
  split
  · exact fail_es L s 130
  · rfl
theorem name_es (s : PS) : (nameP L s).1.es = s.es := by
  unfold nameP
  split
  · exact fail_es L s 130
  · rfl
theorem sink_es (s : PS) : (sinkP L s).1.es = s.es := by
  unfold sinkP
  split
  · exact fail_es L s 5
  · rfl
/-- One expression was parsed: its block begins at a. -/
def Bk (s : PS) (a : Nat) (o : PS × Nat) : Prop := Gr s o.1 ∧ TrL o.1.es a (o.2 + 1) [o.2] ∧ o.2 + 1 = o.1.es.length
theorem put_bk {s : PS} {e : Ex} {a : Nat} (hf : (putP s e).1.err = none) (h : TrL s.es a s.es.length e.args) : Bk s a (putP s e) := by
  have he : s.err = none := Er.put e hf
  have e1 : putP s e = ({ s with es := s.es ++ [e] }, s.es.length) := by
    unfold putP
    rw [he]
    rfl
  rw [e1]
  refine ⟨⟨[e], rfl⟩, ?_, by simp⟩
  exact TrL.one (e := e) (by simp) (h.mono [e])
theorem Bk.of {s s' : PS} {a : Nat} {o : PS × Nat} (h : Bk s' a o) (hs : Gr s s') : Bk s a o := ⟨hs.trans h.1, h.2⟩
structure AllBk (f : Nat) : Prop where
  expr : ∀ s, 12 * (L.length - s.i) + 6 ≤ f → (exprP L f s).1.err = none → Bk s s.es.length (exprP L f s)
  sum : ∀ s, 12 * (L.length - s.i) + 5 ≤ f → (sumP L f s).1.err = none → Bk s s.es.length (sumP L f s)
  sumLoop : ∀ s a b, 12 * (L.length - s.i) + 1 ≤ f → TrL s.es a (b + 1) [b] → b + 1 = s.es.length → (sumLoopP L f s b).1.err = none → Bk s a (sumLoopP L f s b)
  prod : ∀ s, 12 * (L.length - s.i) + 4 ≤ f → (prodP L f s).1.err = none → Bk s s.es.length (prodP L f s)
  prodLoop : ∀ s a b, 12 * (L.length - s.i) + 1 ≤ f → TrL s.es a (b + 1) [b] → b + 1 = s.es.length → (prodLoopP L f s b).1.err = none → Bk s a (prodLoopP L f s b)
  sign : ∀ s, 12 * (L.length - s.i) + 3 ≤ f → (signP L f s).1.err = none → Bk s s.es.length (signP L f s)
  post : ∀ s, 12 * (L.length - s.i) + 2 ≤ f → (postP L f s).1.err = none → Bk s s.es.length (postP L f s)
  postLoop : ∀ s a b, TrL s.es a (b + 1) [b] → b + 1 = s.es.length → (postLoopP L f s b).1.err = none → Bk s a (postLoopP L f s b)
  atom : ∀ s, 12 * (L.length - s.i) + 1 ≤ f → (atomP L f s).1.err = none → Bk s s.es.length (atomP L f s)
  args : ∀ n s l a, n ≤ 3 → 12 * (L.length - s.i) + 7 + n ≤ f → TrL s.es a s.es.length l → (argsP L f n s l).1.err = none → Gr s (argsP L f n s l).1 ∧ TrL (argsP L f n s l).1.es a (argsP L f n s l).1.es.length (argsP L f n s l).2
theorem two_bk {s s1 : PS} {a b : Nat} {o : PS × Nat} {e : Ex} (h1 : TrL s.es a (b + 1) [b]) (hb : b + 1 = s.es.length) (h : Bk s1 s1.es.length o) (hs : s1.es = s.es) (he : e.args = [b, o.2]) (hf : (putP o.1 e).1.err = none) : Bk s a (putP o.1 e) := by
  obtain ⟨g, t, ht⟩ := h
  have g' : Gr s o.1 := (Gr.of hs).trans g
  refine (put_bk (a := a) hf ?_).of g'
  rw [he, ← ht]
  refine TrL.append (b := b + 1) (l := [b]) (m := [o.2]) (g'.tr h1) ?_
  rw [hs, ← hb] at t
  exact t
theorem loop_bk {s : PS} {a : Nat} {o o' : PS × Nat} (h : Bk s a o) (h' : TrL o.1.es a (o.2 + 1) [o.2] → o.2 + 1 = o.1.es.length → Bk o.1 a o') : Bk s a o' := (h' h.2.1 h.2.2).of h.1
theorem allBk (f : Nat) : AllBk L f := by
  induction f with
  | zero => exact ⟨fun s h => by omega, fun s h => by omega, fun s a b h => by omega, fun s h => by omega, fun s a b h => by omega, fun s h => by omega, fun s h => by omega, fun s a b h hb _ => ⟨Gr.refl s, h, hb⟩, fun s h => by omega, fun n s l a _ h => by omega⟩
  | succ f ih =>
    have gA := allG L f
    have eA := allE L f
    refine ⟨?_, ?_, ?_, ?_, ?_, ?_, ?_, ?_, ?_, ?_⟩
    · intro s hw hf
      simp only [exprP] at hf ⊢
      cases hq : isP L (sumP L f s).1 tLess with
      | true =>
        rw [hq] at hf
        simp only [if_true] at hf ⊢
        have h1 := Er.put _ hf
        have h2 : (sumP L f s).1.err = none := Er.adv (eA.sum _ h1)
        have i1 := (gA.sum s).hi
        have i2 := isP_lt hq
        have i3 : (advP (sumP L f s).1).i = (sumP L f s).1.i + 1 := rfl
        have ha := ih.sum s (by omega) h2
        exact (two_bk ha.2.1 ha.2.2 (ih.sum _ (by omega) h1) rfl rfl hf).of ha.1
      | false =>
        rw [hq] at hf
        simp only [Bool.false_eq_true, if_false] at hf ⊢
        exact ih.sum s (by omega) hf
    · intro s hw hf
      simp only [sumP] at hf ⊢
      have h2 := eA.sumLoop _ _ hf
      have i1 := (gA.prod s).hi
      exact loop_bk (ih.prod s (by omega) h2) fun t ht => ih.sumLoop _ _ _ (by omega) t ht hf
    · intro s a b hw ht hb hf
      simp only [sumLoopP] at hf ⊢
      cases hq : isP L s tPlus with
      | true =>
        rw [hq] at hf
        simp only [if_true] at hf ⊢
        have h1 := eA.sumLoop _ _ hf
        have h2 := Er.put _ h1
        have i2 := isP_lt hq
        have i3 : (advP s).i = s.i + 1 := rfl
        have i4 := (gA.prod (advP s)).hi
        have i5 := (put_i (prodP L f (advP s)).1 ⟨4, noB, 0, [b, (prodP L f (advP s)).2], (nowP L s).pos⟩).1
        exact loop_bk (two_bk ht hb (ih.prod (advP s) (by omega) h2) rfl rfl h1) fun t ht => ih.sumLoop _ _ _ (by omega) t ht hf
      | false =>
        rw [hq] at hf
        simp only [Bool.false_eq_true, if_false] at hf ⊢
        cases hq2 : isP L s tMinus with
        | true =>
          rw [hq2] at hf
          simp only [if_true] at hf ⊢
          have h1 := eA.sumLoop _ _ hf
          have h2 := Er.put _ h1
          have i2 := isP_lt hq2
          have i3 : (advP s).i = s.i + 1 := rfl
          have i4 := (gA.prod (advP s)).hi
          have i5 := (put_i (prodP L f (advP s)).1 ⟨5, noB, 0, [b, (prodP L f (advP s)).2], (nowP L s).pos⟩).1
          exact loop_bk (two_bk ht hb (ih.prod (advP s) (by omega) h2) rfl rfl h1) fun t ht => ih.sumLoop _ _ _ (by omega) t ht hf
        | false =>
          simp only [Bool.false_eq_true, if_false]
          exact ⟨Gr.refl s, ht, hb⟩
    · intro s hw hf
      simp only [prodP] at hf ⊢
      have h2 := eA.prodLoop _ _ hf
      have i1 := (gA.sign s).hi
      exact loop_bk (ih.sign s (by omega) h2) fun t ht => ih.prodLoop _ _ _ (by omega) t ht hf
    · intro s a b hw ht hb hf
      simp only [prodLoopP] at hf ⊢
      cases hq : isP L s tStar with
      | true =>
        rw [hq] at hf
        simp only [if_true] at hf ⊢
        have h1 := eA.prodLoop _ _ hf
        have h2 := Er.put _ h1
        have i2 := isP_lt hq
        have i3 : (advP s).i = s.i + 1 := rfl
        have i4 := (gA.sign (advP s)).hi
        have i5 := (put_i (signP L f (advP s)).1 ⟨6, noB, 0, [b, (signP L f (advP s)).2], (nowP L s).pos⟩).1
        exact loop_bk (two_bk ht hb (ih.sign (advP s) (by omega) h2) rfl rfl h1) fun t ht => ih.prodLoop _ _ _ (by omega) t ht hf
      | false =>
        rw [hq] at hf
        simp only [Bool.false_eq_true, if_false] at hf ⊢
        cases hq2 : isP L s tAt with
        | true =>
          rw [hq2] at hf
          simp only [if_true] at hf ⊢
          have h1 := eA.prodLoop _ _ hf
          have h2 := Er.put _ h1
          have i2 := isP_lt hq2
          have i3 : (advP s).i = s.i + 1 := rfl
          have i4 := (gA.sign (advP s)).hi
          have i5 := (put_i (signP L f (advP s)).1 ⟨7, noB, 0, [b, (signP L f (advP s)).2], (nowP L s).pos⟩).1
          exact loop_bk (two_bk ht hb (ih.sign (advP s) (by omega) h2) rfl rfl h1) fun t ht => ih.prodLoop _ _ _ (by omega) t ht hf
        | false =>
          simp only [Bool.false_eq_true, if_false]
          exact ⟨Gr.refl s, ht, hb⟩
    · intro s hw hf
      simp only [signP] at hf ⊢
      cases hq : isP L s tMinus with
      | true =>
        rw [hq] at hf
        simp only [if_true] at hf ⊢
        cases hk : (sinkP L s).2 with
        | true =>
          rw [hk] at hf
          simp only [if_true] at hf ⊢
          have h1 := Er.put _ hf
          have h1' : (signP L f (advP (sinkP L s).1)).1.err = none := h1
          have hsi : (sinkP L s).1.i = s.i := by rw [(sink_true hk).2]
          have i2 := isP_lt hq
          have i3 : (advP (sinkP L s).1).i = (sinkP L s).1.i + 1 := rfl
          have ha := ih.sign (advP (sinkP L s).1) (by omega) h1'
          have hs : (advP (sinkP L s).1).es = s.es := sink_es L s
          rw [hs] at ha
          refine (put_bk hf (a := s.es.length) ?_).of ((Gr.of hs).trans ha.1)
          show TrL (signP L f (advP (sinkP L s).1)).1.es s.es.length (signP L f (advP (sinkP L s).1)).1.es.length [_]
          rw [← ha.2.2]
          exact ha.2.1
        | false =>
          rw [hk] at hf
          have h1 : (sinkP L s).1.err = none := hf
          exact absurd h1 (by rw [(sink_false hk).2]; exact fail_some _ _ _)
      | false =>
        rw [hq] at hf
        simp only [Bool.false_eq_true, if_false] at hf ⊢
        exact ih.post s (by omega) hf
    · intro s hw hf
      simp only [postP] at hf ⊢
      have h2 := eA.postLoop _ _ hf
      exact loop_bk (ih.atom s (by omega) h2) fun t ht => ih.postLoop _ _ _ t ht hf
    · intro s a b ht hb hf
      simp only [postLoopP] at hf ⊢
      cases hq : isP L s tShift with
      | true =>
        rw [hq] at hf
        simp only [if_true] at hf ⊢
        have h1 := eA.postLoop _ _ hf
        have hs : (numberP L (advP s)).1.es = s.es := number_es L (advP s)
        refine loop_bk ((put_bk (a := a) h1 ?_).of (Gr.of hs)) fun t ht => ih.postLoop _ _ _ t ht hf
        rw [hs, ← hb]
        exact ht
      | false =>
        simp only [Bool.false_eq_true, if_false]
        exact ⟨Gr.refl s, ht, hb⟩
    · intro s hw hf
      simp only [atomP] at hf ⊢
      by_cases he : s.err.isSome = true
      · rw [if_pos he] at hf
        rw [hf] at he
        cases he
      · rw [if_neg he] at hf ⊢
        by_cases h2 : ((nowP L s).kind == 2) = true
        · rw [if_pos h2] at hf ⊢
          exact (put_bk (a := s.es.length) hf (.nil _)).of (Gr.of rfl)
        · rw [if_neg h2] at hf ⊢
          by_cases h1 : ((nowP L s).kind == 1) = true
          · rw [if_pos h1] at hf ⊢
            exact (put_bk (a := s.es.length) hf (.nil _)).of (Gr.of rfl)
          · rw [if_neg h1] at hf ⊢
            by_cases hc : ((!isP L s tOpen) && ((callP (nowP L s)).2 == 0)) = true
            · rw [if_pos hc] at hf
              exact absurd hf (fail_some _ _ _)
            · rw [if_neg hc] at hf ⊢
              have hk0 : (nowP L s).kind ≠ 0 := by
                intro h0
                apply hc
                have hp : isP L s tOpen = false := by
                  cases hx : isP L s tOpen with
                  | false => rfl
                  | true => have := (isP_kind hx).2.1; omega
                have hcc : callP (nowP L s) = (0, 0) := by unfold callP; rw [h0]; rfl
                rw [hp, hcc]
                rfl
              have i2 := now_lt hk0
              cases hk : (sinkP L s).2 with
              | false =>
                rw [hk] at hf
                have h1 : (sinkP L s).1.err = none := hf
                exact absurd h1 (by rw [(sink_false hk).2]; exact fail_some _ _ _)
              | true =>
                have hsi : (sinkP L s).1.i = s.i := by rw [(sink_true hk).2]
                have i3 : (advP (sinkP L s).1).i = (sinkP L s).1.i + 1 := rfl
                have hs : (advP (sinkP L s).1).es = s.es := sink_es L s
                rw [hk] at hf
                simp only [if_true] at hf ⊢
                by_cases hn : ((callP (nowP L s)).2 == 0) = true
                · rw [if_pos hn] at hf ⊢
                  have hx : (wantP L (exprP L f (advP (sinkP L s).1)).1 tShut).err = none := hf
                  have hy := Er.want tShut hx
                  have ha := ih.expr (advP (sinkP L s).1) (by omega) hy
                  rw [hs] at ha
                  have hw2 : (riseP (wantP L (exprP L f (advP (sinkP L s).1)).1 tShut)).es = (exprP L f (advP (sinkP L s).1)).1.es := want_es L _ _
                  refine ⟨((Gr.of hs).trans ha.1).trans (Gr.of hw2), ?_, ?_⟩
                  · show TrL (riseP (wantP L (exprP L f (advP (sinkP L s).1)).1 tShut)).es _ _ _
                    rw [hw2]
                    exact ha.2.1
                  · show _ = (riseP (wantP L (exprP L f (advP (sinkP L s).1)).1 tShut)).es.length
                    rw [hw2]
                    exact ha.2.2
                · rw [if_neg hn] at hf ⊢
                  have h0 := Er.put _ hf
                  have hx : (wantP L (argsP L f (callP (nowP L s)).2 (wantP L (advP (sinkP L s).1) tOpen) []).1 tShut).err = none := h0
                  have hy := Er.want tShut hx
                  have i4 := (G.want (L := L) (advP (sinkP L s).1) tOpen).hi
                  have hcn : (callP (nowP L s)).2 ≤ 3 := by
                    unfold callP
                    repeat' split
                    all_goals simp
                  have hs2 : (wantP L (advP (sinkP L s).1) tOpen).es = s.es := (want_es L _ _).trans hs
                  have ea := ih.args (callP (nowP L s)).2 (wantP L (advP (sinkP L s).1) tOpen) [] s.es.length hcn (by omega) (by rw [hs2]; exact .nil _) hy
                  have hw2 : (riseP (wantP L (argsP L f (callP (nowP L s)).2 (wantP L (advP (sinkP L s).1) tOpen) []).1 tShut)).es = (argsP L f (callP (nowP L s)).2 (wantP L (advP (sinkP L s).1) tOpen) []).1.es := want_es L _ _
                  refine (put_bk (a := s.es.length) hf ?_).of (((Gr.of hs2).trans ea.1).trans (Gr.of hw2))
                  rw [hw2]
                  exact ea.2
    · intro n s l a hn hw ht hf
      cases n with
      | zero =>
        simp only [argsP]
        exact ⟨Gr.refl s, ht⟩
      | succ n =>
        simp only [argsP] at hf ⊢
        have h1 := eA.args _ _ _ hf
        by_cases hl : l.length = 0
        · rw [if_pos hl] at h1 hf ⊢
          have i1 := (gA.expr s).hi
          have hb := ih.expr s (by omega) h1
          have e := ih.args n (exprP L f s).1 (l ++ [(exprP L f s).2]) a (by omega) (by omega) (by rw [← hb.2.2]; exact (hb.1.tr ht).append hb.2.1) hf
          exact ⟨hb.1.trans e.1, e.2⟩
        · rw [if_neg hl] at h1 hf ⊢
          have i0 := (G.want (L := L) s tComma).hi
          have i1 := (gA.expr (wantP L s tComma)).hi
          have hs := want_es L s tComma
          have hb := ih.expr (wantP L s tComma) (by omega) h1
          rw [hs] at hb
          have hg := (Gr.of hs).trans hb.1
          have e := ih.args n (exprP L f (wantP L s tComma)).1 (l ++ [(exprP L f (wantP L s tComma)).2]) a (by omega) (by omega) (by rw [← hb.2.2]; exact (hg.tr ht).append hb.2.1) hf
          exact ⟨hg.trans e.1, e.2⟩
/-- Each expression lies in some statement's block. -/
def Cov (s : PS) : Prop := ∀ i, i < s.es.length → ∃ x ∈ s.ss, x.kind = 2 ∧ ∃ a, a ≤ i ∧ i ≤ x.expr ∧ TrL s.es a (x.expr + 1) [x.expr]
theorem shapeLoop_es : ∀ (f : Nat) (s : PS) (l : List Nat), (shapeLoopP L f s l).1.es = s.es
  | 0, s, l => rfl
  | f + 1, s, l => by
    unfold shapeLoopP
    split
    · exact (shapeLoop_es f _ _).trans (number_es L (advP s))
    · exact want_es L s tKet
theorem shape_es (f : Nat) (s : PS) : (shapeP L f s).1.es = s.es := by
  unfold shapeP
  dsimp only
  split
  · exact want_es L s tBra
  · exact (shapeLoop_es L f _ _).trans ((number_es L _).trans (want_es L s tBra))
theorem Cov.old {s s' : PS} (h : Cov s) (hg : Gr s s') {i : Nat} (hi : i < s.es.length) {y : Sm} (hs : s'.ss = s.ss ++ [y]) : ∃ x ∈ s'.ss, x.kind = 2 ∧ ∃ a, a ≤ i ∧ i ≤ x.expr ∧ TrL s'.es a (x.expr + 1) [x.expr] := by
  obtain ⟨x, hx, hk, a, h1, h2, h3⟩ := h i hi
  exact ⟨x, by rw [hs]; exact List.mem_append.2 (.inl hx), hk, a, h1, h2, hg.tr h3⟩
theorem body_bk (F : Nat) (s : PS) (hF : 12 * L.length + 20 ≤ F) (hf : (bodyP L F s).1.err = none) : (bodyP L F s).1.es = s.es ∨ (Gr s (bodyP L F s).1 ∧ (bodyP L F s).2.kind = 2 ∧ TrL (bodyP L F s).1.es s.es.length ((bodyP L F s).2.expr + 1) [(bodyP L F s).2.expr] ∧ (bodyP L F s).2.expr + 1 = (bodyP L F s).1.es.length) := by
  unfold bodyP at hf ⊢
  dsimp only at hf ⊢
  split
  · exact .inl (fail_es L s 5)
  · rename_i h0
    rw [if_neg h0] at hf
    split
    · exact .inl ((shape_es L F _).trans ((name_es L _).trans (number_es L _)))
    · rename_i h1
      rw [if_neg h1] at hf
      split
      · rename_i h2
        rw [if_pos h2] at hf
        have hs : (wantP L (nameP L (advP s)).1 tEq).es = s.es := (want_es L _ _).trans (name_es L (advP s))
        have h := (allBk L F).expr (wantP L (nameP L (advP s)).1 tEq) (by omega) hf
        rw [hs] at h
        exact .inr ⟨(Gr.of hs).trans h.1, rfl, h.2.1, h.2.2⟩
      · split
        · exact .inl (name_es L (advP s))
        · exact .inl (fail_es L s 130)
theorem stmt_cov (F : Nat) (s : PS) (hF : 12 * L.length + 20 ≤ F) (hf : (stmtP L F s).err = none) (h : Cov s) : Cov (stmtP L F s) := by
  have e : stmtP L F s = putS (wantP L (bodyP L F s).1 tSemi) (bodyP L F s).2 := rfl
  rw [e] at hf ⊢
  have hf1 : (wantP L (bodyP L F s).1 tSemi).err = none := hf
  have hf2 := Er.want tSemi hf1
  have hw : (putS (wantP L (bodyP L F s).1 tSemi) (bodyP L F s).2).es = (bodyP L F s).1.es := want_es L _ _
  have hss : (putS (wantP L (bodyP L F s).1 tSemi) (bodyP L F s).2).ss = s.ss ++ [(bodyP L F s).2] := by
    show (wantP L (bodyP L F s).1 tSemi).ss ++ _ = _
    rw [(G.want (L := L) (bodyP L F s).1 tSemi).hs, (body_G (L := L) F s).hs]
  intro i hi
  rw [hw] at hi
  rcases body_bk L F s hF hf2 with hb | ⟨hg, hk, ht, hl⟩
  · exact h.old (Gr.of (hw.trans hb)) (by rw [← hb]; exact hi) hss
  · by_cases hio : i < s.es.length
    · exact h.old (hg.trans (Gr.of hw)) hio hss
    · exact ⟨(bodyP L F s).2, by rw [hss]; exact List.mem_append.2 (.inr (List.mem_singleton.2 rfl)), hk, s.es.length, by omega, by omega, by rw [hw]; exact ht⟩
theorem loop_cov (F : Nat) (hF : 12 * L.length + 20 ≤ F) : ∀ (n : Nat) (s : PS), (parseLoopP L n F s).err = none → Cov s → Cov (parseLoopP L n F s) := by
  intro n
  induction n with
  | zero => intro s _ h; exact h
  | succ n ih =>
    intro s he h
    rw [parseLoopP] at he ⊢
    split
    · rename_i hc
      rw [if_pos hc] at he
      have h1 : (stmtP L F s).err = none := Classical.byContradiction fun h1 => by
        rw [loop_stay L n F _ h1] at he
        exact h1 he
      exact ih _ he (stmt_cov L F s hF h1 h)
    · exact h
theorem parse_cov {F : Nat} (hF : 12 * L.length + 20 ≤ F) (h : (parseP F L).err = none) : Cov (parseP F L) := loop_cov L F hF F startP h (fun i hi => by cases hi)
end
end Go.Proofs.YthnkeejiocnflaaGreatDoor
