/-
  The plain parser: how far it goes, how many expressions it makes. No program.
-/
import Derived.Test.YtcefclglmhpdeaaGreatDoorParL
namespace Go.Proofs.YtcefclglmhpdeaaGreatDoor
set_option linter.unusedVariables false
set_option linter.unusedSimpArgs false
open Go.RowKit
/-- From s to s' at least k more tokens were gone by than expressions made. -/
structure G (L : List Tok) (s s' : PS) (k : Nat) : Prop where
  hi : s.i ≤ s'.i
  he : s'.es.length + s.i + k ≤ s.es.length + s'.i
  hl : s.i ≤ L.length → s'.i ≤ L.length
  hs : s'.ss = s.ss
  hd : s'.deep = s.deep
section
variable {L : List Tok} {s s' s'' : PS} {k k' : Nat}
theorem G.refl (s : PS) : G L s s 0 := ⟨Nat.le_refl _, by omega, fun h => h, rfl, rfl⟩
theorem G.trans (h : G L s s' k) (h' : G L s' s'' k') : G L s s'' (k + k') :=
  ⟨Nat.le_trans h.hi h'.hi, by have := h.he; have := h'.he; omega, fun x => h'.hl (h.hl x), h'.hs.trans h.hs, h'.hd.trans h.hd⟩
theorem G.less (h : G L s s' k) (hk : k' ≤ k) : G L s s' k' := ⟨h.hi, by have := h.he; omega, h.hl, h.hs, h.hd⟩
theorem now_lt (h : (nowP L s).kind ≠ 0) : s.i < L.length := by
  unfold nowP at h
  by_cases hi : s.i < L.length
  · exact hi
  · rw [List.getElem?_eq_none (by omega)] at h
    exact absurd rfl h
theorem isP_kind {t : ByteArray} (h : isP L s t = true) : s.err = none ∧ ((nowP L s).kind = 3 ∨ (nowP L s).kind = 4) ∧ (nowP L s).text.toList = t.toList := by
  unfold isP at h
  simp only [Bool.and_eq_true, Bool.or_eq_true, beq_iff_eq, Option.isNone_iff_eq_none] at h
  exact ⟨h.1.1, h.1.2, h.2⟩
theorem isP_lt {t : ByteArray} (h : isP L s t = true) : s.i < L.length := now_lt (by have := (isP_kind h).2.1; omega)
theorem G.adv (h : s.i < L.length) : G L s (advP s) 1 := ⟨Nat.le_succ _, by show s.es.length + s.i + 1 ≤ s.es.length + (s.i + 1); omega, fun _ => h, rfl, rfl⟩
theorem G.fail (s : PS) (c : Nat) : G L s (failP L s c) 0 := by
  unfold failP
  split
  · exact ⟨Nat.le_refl _, Nat.le_refl _, fun h => h, rfl, rfl⟩
  · exact G.refl s
theorem G.want (s : PS) (t : ByteArray) : G L s (wantP L s t) 0 := by
  unfold wantP
  split
  · rename_i h; exact (G.adv (isP_lt h)).less (by omega)
  · exact G.fail s _
theorem G.name (s : PS) : G L s (nameP L s).1 0 := by
  unfold nameP
  split
  · exact G.fail s _
  · rename_i h
    have hk : (nowP L s).kind ≠ 0 := by
      simp only [Bool.or_eq_true, not_or, bne_iff_ne, ne_eq, Decidable.not_not] at h
      omega
    exact (G.adv (now_lt hk)).less (by omega)
theorem G.number (s : PS) : G L s (numberP L s).1 0 := by
  unfold numberP
  split
  · exact G.fail s _
  · rename_i h
    have hk : (nowP L s).kind ≠ 0 := by
      simp only [Bool.or_eq_true, not_or, bne_iff_ne, ne_eq, Decidable.not_not] at h
      omega
    exact (G.adv (now_lt hk)).less (by omega)
theorem G.put (h : G L s s' (k + 1)) (e : Ex) : G L s (putP s' e).1 k := by
  unfold putP
  split
  · exact h.less (by omega)
  · exact ⟨h.hi, by have := h.he; show (s'.es ++ [e]).length + s.i + k ≤ s.es.length + s'.i; rw [List.length_append]; simp; omega, h.hl, h.hs, h.hd⟩
theorem G.bracket {d d' : Nat} (h : G L { s with deep := d' } s' k) (hd : d = s.deep) : G L s { s' with deep := d } k := ⟨h.hi, h.he, h.hl, h.hs, hd⟩
theorem sink_true (h : (sinkP L s).2 = true) : s.deep ≠ 32 ∧ (sinkP L s).1 = { s with deep := s.deep + 1 } := by
  unfold sinkP at h ⊢
  split
  · rename_i h1; rw [if_pos h1] at h; cases h
  · rename_i h1; exact ⟨h1, rfl⟩
theorem sink_false (h : (sinkP L s).2 = false) : s.deep = 32 ∧ (sinkP L s).1 = failP L s 5 := by
  unfold sinkP at h ⊢
  split
  · rename_i h1; exact ⟨h1, rfl⟩
  · rename_i h1; rw [if_neg h1] at h; cases h
theorem G.rise {s1 : PS} (hd : s1 = { s with deep := s.deep + 1 }) (h : G L s1 s' k) : G L s (riseP s') k := by
  subst hd
  have h2 := h.hd
  exact ⟨h.hi, h.he, h.hl, h.hs, by show s'.deep - 1 = s.deep; rw [h2]; show s.deep + 1 - 1 = s.deep; omega⟩
end
/-- What is asked of the parser's functions at so much fuel. -/
structure AllG (L : List Tok) (f : Nat) : Prop where
  expr : ∀ s, G L s (exprP L f s).1 0
  sum : ∀ s, G L s (sumP L f s).1 0
  sumLoop : ∀ s a, G L s (sumLoopP L f s a).1 0
  prod : ∀ s, G L s (prodP L f s).1 0
  prodLoop : ∀ s a, G L s (prodLoopP L f s a).1 0
  sign : ∀ s, G L s (signP L f s).1 0
  post : ∀ s, G L s (postP L f s).1 0
  postLoop : ∀ s a, G L s (postLoopP L f s a).1 0
  atom : ∀ s, G L s (atomP L f s).1 0
  args : ∀ n s l, G L s (argsP L f n s l).1 0
theorem allG (L : List Tok) (f : Nat) : AllG L f := by
  induction f with
  | zero => exact ⟨fun s => G.refl s, fun s => G.refl s, fun s a => G.refl s, fun s => G.refl s, fun s a => G.refl s, fun s => G.refl s, fun s => G.refl s, fun s a => G.refl s, fun s => G.refl s, fun n s l => by rw [argsP]; exact G.refl s⟩
  | succ f ih =>
    refine ⟨?_, ?_, ?_, ?_, ?_, ?_, ?_, ?_, ?_, ?_⟩
    · intro s
      rw [exprP]
      have h1 := ih.sum s
      dsimp only
      split
      · rename_i h
        exact (((h1.trans (G.adv (isP_lt h))).trans (ih.sum _)).less (by omega) : G L s _ (0 + 1)).put _
      · exact h1
    · intro s
      rw [sumP]
      exact ((ih.prod s).trans (ih.sumLoop _ _)).less (by omega)
    · intro s a
      rw [sumLoopP]
      dsimp only
      split
      · rename_i h
        exact (((((G.adv (isP_lt h)).trans (ih.prod _)).less (by omega) : G L s _ (0 + 1)).put _).trans (ih.sumLoop _ _)).less (by omega)
      · split
        · rename_i h
          exact (((((G.adv (isP_lt h)).trans (ih.prod _)).less (by omega) : G L s _ (0 + 1)).put _).trans (ih.sumLoop _ _)).less (by omega)
        · exact G.refl s
    · intro s
      rw [prodP]
      exact ((ih.sign s).trans (ih.prodLoop _ _)).less (by omega)
    · intro s a
      rw [prodLoopP]
      dsimp only
      split
      · rename_i h
        exact (((((G.adv (isP_lt h)).trans (ih.sign _)).less (by omega) : G L s _ (0 + 1)).put _).trans (ih.prodLoop _ _)).less (by omega)
      · split
        · rename_i h
          exact (((((G.adv (isP_lt h)).trans (ih.sign _)).less (by omega) : G L s _ (0 + 1)).put _).trans (ih.prodLoop _ _)).less (by omega)
        · exact G.refl s
    · intro s
      rw [signP]
      dsimp only
      split
      · rename_i h
        split
        · rename_i hd
          obtain ⟨hd1, hd2⟩ := sink_true hd
          have hadv : G L (sinkP L s).1 (advP (sinkP L s).1) 1 := G.adv (by rw [hd2]; exact isP_lt h)
          exact (G.rise hd2 ((hadv.trans (ih.sign _)).less (by omega) : G L _ _ (0 + 1))).put _
        · rename_i hd
          rw [(sink_false (by simpa using hd)).2]
          exact G.fail s _
      · exact ih.post s
    · intro s
      rw [postP]
      exact ((ih.atom s).trans (ih.postLoop _ _)).less (by omega)
    · intro s a
      rw [postLoopP]
      dsimp only
      split
      · rename_i h
        exact (((((G.adv (isP_lt h)).trans (G.number _)).less (by omega) : G L s _ (0 + 1)).put _).trans (ih.postLoop _ _)).less (by omega)
      · exact G.refl s
    · intro s
      rw [atomP]
      dsimp only
      split
      · exact G.refl s
      · split
        · rename_i h
          exact (G.adv (now_lt (by simp at h; omega)) : G L s _ (0 + 1)).put _
        · split
          · rename_i h
            exact (G.adv (now_lt (by simp at h; omega)) : G L s _ (0 + 1)).put _
          · split
            · exact G.fail s _
            · rename_i hc
              have hlt : s.i < L.length := by
                simp only [Bool.and_eq_true, Bool.not_eq_true', beq_iff_eq, not_and] at hc
                cases ho : isP L s tOpen with
                | true => exact isP_lt ho
                | false =>
                  have h2 := hc ho
                  apply now_lt
                  intro h0
                  apply h2
                  unfold callP
                  rw [h0]
                  rfl
              split
              · rename_i hd
                obtain ⟨hd1, hd2⟩ := sink_true hd
                have hadv : G L (sinkP L s).1 (advP (sinkP L s).1) 1 := G.adv (by rw [hd2]; exact hlt)
                split
                · exact G.rise hd2 (((hadv.trans (ih.expr _)).trans (G.want _ _)).less (by omega))
                · exact (G.rise hd2 ((((hadv.trans (G.want _ _)).trans (ih.args _ _ _)).trans (G.want _ _)).less (by omega) : G L _ _ (0 + 1))).put _
              · rename_i hd
                rw [(sink_false (by simpa using hd)).2]
                exact G.fail s _
    · intro n s l
      cases n with
      | zero => rw [argsP]; exact G.refl s
      | succ n =>
        rw [argsP]
        split
        · exact ((ih.expr _).trans (ih.args _ _ _)).less (by omega)
        · exact (((G.want _ _).trans (ih.expr _)).trans (ih.args _ _ _)).less (by omega)
end Go.Proofs.YtcefclglmhpdeaaGreatDoor
