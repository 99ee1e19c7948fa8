/-
  The numbers of a tree are small. No program.
-/
import Derived.Test.YtcefclglmhpdeaaGreatDoorQJoinM
namespace Go.Proofs.YtcefclglmhpdeaaGreatDoor
set_option linter.unusedVariables false
set_option linter.unusedSimpArgs false
open Go.RowKit
/-- All numbers of the tree so far are at most N. -/
structure Bd (L : List Tok) (N : Nat) (s : PS) : Prop where
  el : s.es.length ≤ s.i
  il : s.i ≤ L.length
  es : ∀ e ∈ s.es, e.pos ≤ N ∧ ∀ a ∈ e.args, a ≤ N
  ss : ∀ x ∈ s.ss, x.pos ≤ N ∧ x.expr ≤ N
section
variable {L : List Tok} {N : Nat} {s s' : PS}
theorem Bd.same (h : Bd L N s) (hi : s'.i = s.i) (he : s'.es = s.es) (hs : s'.ss = s.ss) : Bd L N s' :=
  ⟨by rw [he, hi]; exact h.el, by rw [hi]; exact h.il, by rw [he]; exact h.es, by rw [hs]; exact h.ss⟩
theorem Bd.adv (h : Bd L N s) (hl : s.i < L.length) : Bd L N (advP s) := ⟨Nat.le_succ_of_le h.el, hl, h.es, h.ss⟩
theorem Bd.fail (h : Bd L N s) (c : Nat) : Bd L N (failP L s c) := by
  unfold failP
  split
  · exact h.same rfl rfl rfl
  · exact h
theorem Bd.want (h : Bd L N s) (t : ByteArray) : Bd L N (wantP L s t) := by
  unfold wantP
  split
  · rename_i hq; exact h.adv (isP_lt hq)
  · exact h.fail _
theorem Bd.number (h : Bd L N s) : Bd L N (numberP L s).1 := by
  unfold numberP
  split
  · exact h.fail _
  · rename_i hh
    exact h.adv (now_lt (by simp only [Bool.or_eq_true, not_or, bne_iff_ne, ne_eq, Decidable.not_not] at hh; omega))
theorem Bd.name (h : Bd L N s) : Bd L N (nameP L s).1 := by
  unfold nameP
  split
  · exact h.fail _
  · rename_i hh
    exact h.adv (now_lt (by simp only [Bool.or_eq_true, not_or, bne_iff_ne, ne_eq, Decidable.not_not] at hh; omega))
theorem Bd.put (h : Bd L N s) (hN : L.length ≤ N) {e : Ex} (h1 : s.es.length < s.i) (hp : e.pos ≤ N) (ha : ∀ a ∈ e.args, a ≤ N) : Bd L N (putP s e).1 ∧ (putP s e).2 ≤ N := by
  unfold putP
  split
  · exact ⟨h, Nat.zero_le _⟩
  · refine ⟨⟨by show (s.es ++ [e]).length ≤ s.i; rw [List.length_append]; exact h1, h.il, fun x hx => ?_, h.ss⟩, by have := h.el; have := h.il; show s.es.length ≤ N; omega⟩
    rcases List.mem_append.1 hx with hx | hx
    · exact h.es x hx
    · rw [List.mem_singleton.1 hx]
      exact ⟨hp, ha⟩
theorem Bd.sink (h : Bd L N s) : Bd L N (sinkP L s).1 := by
  unfold sinkP
  split
  · exact h.fail _
  · exact h.same rfl rfl rfl
theorem Bd.rise (h : Bd L N s) : Bd L N (riseP s) := h.same rfl rfl rfl
end
structure AllB (L : List Tok) (N f : Nat) : Prop where
  expr : ∀ s, Bd L N s → Bd L N (exprP L f s).1 ∧ (exprP L f s).2 ≤ N
  sum : ∀ s, Bd L N s → Bd L N (sumP L f s).1 ∧ (sumP L f s).2 ≤ N
  sumLoop : ∀ s a, Bd L N s → a ≤ N → Bd L N (sumLoopP L f s a).1 ∧ (sumLoopP L f s a).2 ≤ N
  prod : ∀ s, Bd L N s → Bd L N (prodP L f s).1 ∧ (prodP L f s).2 ≤ N
  prodLoop : ∀ s a, Bd L N s → a ≤ N → Bd L N (prodLoopP L f s a).1 ∧ (prodLoopP L f s a).2 ≤ N
  sign : ∀ s, Bd L N s → Bd L N (signP L f s).1 ∧ (signP L f s).2 ≤ N
  post : ∀ s, Bd L N s → Bd L N (postP L f s).1 ∧ (postP L f s).2 ≤ N
  postLoop : ∀ s a, Bd L N s → a ≤ N → Bd L N (postLoopP L f s a).1 ∧ (postLoopP L f s a).2 ≤ N
  atom : ∀ s, Bd L N s → Bd L N (atomP L f s).1 ∧ (atomP L f s).2 ≤ N
  args : ∀ n s l, Bd L N s → (∀ a ∈ l, a ≤ N) → Bd L N (argsP L f n s l).1 ∧ ∀ a ∈ (argsP L f n s l).2, a ≤ N
theorem allB {L : List Tok} {N : Nat} (hN : L.length ≤ N) (hpos : ∀ s : PS, (nowP L s).pos ≤ N) (f : Nat) : AllB L N f := by
  have two : ∀ a b : Nat, a ≤ N → b ≤ N → ∀ x ∈ [a, b], x ≤ N := fun a b ha hb x hx => by
    rcases List.mem_cons.1 hx with rfl | hx
    · exact ha
    · rw [List.mem_singleton.1 hx]; exact hb
  have one : ∀ a : Nat, a ≤ N → ∀ x ∈ [a], x ≤ N := fun a ha x hx => by rw [List.mem_singleton.1 hx]; exact ha
  induction f with
  | zero => exact ⟨fun s h => ⟨h, Nat.zero_le _⟩, fun s h => ⟨h, Nat.zero_le _⟩, fun s a h ha => ⟨h, ha⟩, fun s h => ⟨h, Nat.zero_le _⟩, fun s a h ha => ⟨h, ha⟩, fun s h => ⟨h, Nat.zero_le _⟩, fun s h => ⟨h, Nat.zero_le _⟩, fun s a h ha => ⟨h, ha⟩, fun s h => ⟨h, Nat.zero_le _⟩, fun n s l h hl => by rw [argsP]; exact ⟨h, hl⟩⟩
  | succ f ih =>
    have gA := allG L f
    -- behind a sign at s and a level on it, one more token is gone by than expressions made
    have gap : ∀ (s r : PS), Bd L N s → s.i < L.length → G L (advP s) r 0 → r.es.length < r.i := fun s r h hl g => by
      have h1 := g.he
      have h2 := h.el
      have h3 : (advP s).i = s.i + 1 := rfl
      have h4 : (advP s).es = s.es := rfl
      rw [h3, h4] at h1
      omega
    refine ⟨?_, ?_, ?_, ?_, ?_, ?_, ?_, ?_, ?_, ?_⟩
    · intro s h
      simp only [exprP]
      obtain ⟨a1, a2⟩ := ih.sum s h
      split
      · rename_i hq
        have hl := isP_lt hq
        obtain ⟨b1, b2⟩ := ih.sum _ (a1.adv hl)
        exact b1.put hN (gap _ _ a1 hl (gA.sum _)) (hpos _) (two _ _ a2 b2)
      · exact ⟨a1, a2⟩
    · intro s h
      simp only [sumP]
      obtain ⟨a1, a2⟩ := ih.prod s h
      exact ih.sumLoop _ _ a1 a2
    · intro s a h ha
      simp only [sumLoopP]
      split
      · rename_i hq
        have hl := isP_lt hq
        obtain ⟨b1, b2⟩ := ih.prod _ (h.adv hl)
        obtain ⟨c1, c2⟩ := b1.put hN (gap _ _ h hl (gA.prod _)) (hpos _) (two _ _ ha b2) (e := ⟨4, noB, 0, [a, (prodP L f (advP s)).2], (nowP L s).pos⟩)
        exact ih.sumLoop _ _ c1 c2
      · split
        · rename_i hq
          have hl := isP_lt hq
          obtain ⟨b1, b2⟩ := ih.prod _ (h.adv hl)
          obtain ⟨c1, c2⟩ := b1.put hN (gap _ _ h hl (gA.prod _)) (hpos _) (two _ _ ha b2) (e := ⟨5, noB, 0, [a, (prodP L f (advP s)).2], (nowP L s).pos⟩)
          exact ih.sumLoop _ _ c1 c2
        · exact ⟨h, ha⟩
    · intro s h
      simp only [prodP]
      obtain ⟨a1, a2⟩ := ih.sign s h
      exact ih.prodLoop _ _ a1 a2
    · intro s a h ha
      simp only [prodLoopP]
      split
      · rename_i hq
        have hl := isP_lt hq
        obtain ⟨b1, b2⟩ := ih.sign _ (h.adv hl)
        obtain ⟨c1, c2⟩ := b1.put hN (gap _ _ h hl (gA.sign _)) (hpos _) (two _ _ ha b2) (e := ⟨6, noB, 0, [a, (signP L f (advP s)).2], (nowP L s).pos⟩)
        exact ih.prodLoop _ _ c1 c2
      · split
        · rename_i hq
          have hl := isP_lt hq
          obtain ⟨b1, b2⟩ := ih.sign _ (h.adv hl)
          obtain ⟨c1, c2⟩ := b1.put hN (gap _ _ h hl (gA.sign _)) (hpos _) (two _ _ ha b2) (e := ⟨7, noB, 0, [a, (signP L f (advP s)).2], (nowP L s).pos⟩)
          exact ih.prodLoop _ _ c1 c2
        · exact ⟨h, ha⟩
    · intro s h
      simp only [signP]
      split
      · rename_i hq
        have hl := isP_lt hq
        cases hk : (sinkP L s).2 with
        | true =>
          simp only [if_true]
          have hsk := (sink_true hk).2
          have h1 := h.sink
          have hl1 : (sinkP L s).1.i < L.length := by rw [hsk]; exact hl
          obtain ⟨b1, b2⟩ := ih.sign _ (h1.adv hl1)
          exact b1.rise.put hN (gap _ (signP L f (advP (sinkP L s).1)).1 h1 hl1 (gA.sign _)) (hpos _) (one _ b2)
        | false => exact ⟨h.sink, Nat.zero_le _⟩
      · exact ih.post s h
    · intro s h
      simp only [postP]
      obtain ⟨a1, a2⟩ := ih.atom s h
      exact ih.postLoop _ _ a1 a2
    · intro s a h ha
      simp only [postLoopP]
      split
      · rename_i hq
        have hl := isP_lt hq
        obtain ⟨c1, c2⟩ := (h.adv hl).number.put hN (gap _ _ h hl (G.number _)) (hpos _) (one _ ha) (e := ⟨9, noB, (numberP L (advP s)).2, [a], (nowP L s).pos⟩)
        exact ih.postLoop _ _ c1 c2
      · exact ⟨h, ha⟩
    · intro s h
      have none_ : ∀ x ∈ ([] : List Nat), x ≤ N := fun x hx => by cases hx
      simp only [atomP]
      split
      · exact ⟨h, Nat.zero_le _⟩
      · split
        · rename_i hk
          have hl : s.i < L.length := now_lt (by rw [beq_iff_eq] at hk; omega)
          exact (h.adv hl).put hN (gap _ _ h hl (G.refl _)) (hpos _) none_
        · split
          · rename_i hk
            have hl : s.i < L.length := now_lt (by rw [beq_iff_eq] at hk; omega)
            exact (h.adv hl).put hN (gap _ _ h hl (G.refl _)) (hpos _) none_
          · split
            · exact ⟨h.fail _, Nat.zero_le _⟩
            · rename_i hc
              have hk0 : (nowP L s).kind ≠ 0 := by
                intro h0
                apply hc
                have hp : isP L s tOpen = false := by
                  cases hx : isP L s tOpen with
                  | false => rfl
                  | true => have := (isP_kind hx).2.1; omega
                have hcc : callP (nowP L s) = (0, 0) := by unfold callP; rw [h0]; rfl
                rw [hp, hcc]
                rfl
              have hl := now_lt hk0
              cases hk : (sinkP L s).2 with
              | false => exact ⟨h.sink, Nat.zero_le _⟩
              | true =>
                simp only [if_true]
                have hsk := (sink_true hk).2
                have h1 := h.sink
                have hl1 : (sinkP L s).1.i < L.length := by rw [hsk]; exact hl
                split
                · obtain ⟨b1, b2⟩ := ih.expr _ (h1.adv hl1)
                  exact ⟨(b1.want _).rise, b2⟩
                · obtain ⟨b1, b2⟩ := ih.args (callP (nowP L s)).2 _ [] ((h1.adv hl1).want tOpen) none_
                  exact (b1.want _).rise.put hN (gap _ (wantP L (argsP L f (callP (nowP L s)).2 (wantP L (advP (sinkP L s).1) tOpen) []).1 tShut) h1 hl1 ((((G.want _ _).trans (gA.args _ _ _)).trans (G.want _ _)).less (Nat.zero_le _))) (hpos _) b2
    · intro n s l h hl
      cases n with
      | zero => rw [argsP]; exact ⟨h, hl⟩
      | succ n =>
        simp only [argsP]
        have h1 : Bd L N (if l.length = 0 then s else wantP L s tComma) := by
          split
          · exact h
          · exact h.want _
        obtain ⟨b1, b2⟩ := ih.expr _ h1
        refine ih.args n _ _ b1 (fun x hx => ?_)
        rcases List.mem_append.1 hx with hx | hx
        · exact hl x hx
        · rw [List.mem_singleton.1 hx]; exact b2
section
variable {L : List Tok} {N : Nat}
theorem shapeLoop_bd (f : Nat) : ∀ (f' : Nat) (s : PS) (l : List Nat), Bd L N s → Bd L N (shapeLoopP L f' s l).1 := by
  intro f'
  induction f' with
  | zero => intro s l h; exact h
  | succ f' ih =>
    intro s l h
    simp only [shapeLoopP]
    split
    · rename_i hq
      exact ih _ _ (h.adv (isP_lt hq)).number
    · exact h.want _
theorem shape_bd (f : Nat) (s : PS) (h : Bd L N s) : Bd L N (shapeP L f s).1 := by
  unfold shapeP
  dsimp only
  split
  · rename_i hq
    exact (h.want _).adv (isP_lt hq)
  · exact shapeLoop_bd f f _ _ (h.want _).number
theorem stmt_bd (hN : L.length ≤ N) (hpos : ∀ s : PS, (nowP L s).pos ≤ N) (f : Nat) (s : PS) (h : Bd L N s) : Bd L N (stmtP L f s) := by
  have hb : Bd L N (bodyP L f s).1 ∧ (bodyP L f s).2.pos ≤ N ∧ (bodyP L f s).2.expr ≤ N := by
    unfold bodyP
    split
    · exact ⟨h.fail _, hpos _, Nat.zero_le _⟩
    · split
      · rename_i hq
        exact ⟨shape_bd f _ ((h.adv (isP_lt hq)).number).name, hpos _, Nat.zero_le _⟩
      · split
        · rename_i hq
          obtain ⟨b1, b2⟩ := (allB hN hpos f).expr _ (((h.adv (isP_lt hq)).name).want tEq)
          exact ⟨b1, hpos _, b2⟩
        · split
          · rename_i hq
            exact ⟨(h.adv (isP_lt hq)).name, hpos _, Nat.zero_le _⟩
          · exact ⟨h.fail _, hpos _, Nat.zero_le _⟩
  have hw := hb.1.want tSemi
  refine ⟨hw.el, hw.il, hw.es, fun x hx => ?_⟩
  have hx' : x ∈ (wantP L (bodyP L f s).1 tSemi).ss ++ [(bodyP L f s).2] := hx
  rcases List.mem_append.1 hx' with hx | hx
  · exact hw.ss x hx
  · rw [List.mem_singleton.1 hx]
    exact hb.2
theorem parse_bd (hN : L.length ≤ N) (hpos : ∀ s : PS, (nowP L s).pos ≤ N) (F : Nat) : Bd L N (parseP F L) := by
  have key : ∀ (n : Nat) (s : PS), Bd L N s → Bd L N (parseLoopP L n F s) := by
    intro n
    induction n with
    | zero => intro s h; exact h
    | succ n ih =>
      intro s h
      rw [parseLoopP]
      split
      · exact ih _ (stmt_bd hN hpos F s h)
      · exact h
  exact key F startP ⟨Nat.zero_le _, Nat.zero_le _, fun e he => (by cases he), fun x hx => (by cases hx)⟩
end
end Go.Proofs.YtcefclglmhpdeaaGreatDoor
