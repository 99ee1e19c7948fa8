/-
  A good list of tokens whose last token is taken away is told as wrong at its end. No program.
-/
import Derived.Test.YtcefclglmhpdeaaGreatDoorQCutL
import Derived.Test.YtcefclglmhpdeaaGreatDoorQToksL
namespace Go.Proofs.YtcefclglmhpdeaaGreatDoor
set_option linter.unusedVariables false
set_option linter.unusedSimpArgs false
open Go.RowKit
theorem one_kind {L : List UInt8} {t n v : Nat} (h : oneL L = some (t, n, v)) : t ≠ 0 := by
  cases L with
  | nil => cases h
  | cons c r =>
    rw [oneL_cons] at h
    split at h
    · split at h
      · injection h with h; injection h with e1 h; omega
      · cases h
    · split at h
      · split at h
        · injection h with h; injection h with e1 h; split at e1 <;> omega
        · cases h
      · split at h
        · injection h with h; injection h with e1 h; omega
        · split at h
          · injection h with h; injection h with e1 h; omega
          · cases h
theorem toks_kind {p : Nat} {L : List UInt8} {r : List Tok} (h : Toks p L r) : ∀ t ∈ r, t.kind ≠ 0 := by
  induction h with
  | done p L h => intro t ht; simp at ht
  | tok p L t n v r h h1 h2 ih =>
    intro x hx
    rcases List.mem_cons.1 hx with rfl | hx
    · exact one_kind h1
    · exact ih x hx
theorem shapeLoop_er (L : List Tok) : ∀ (f : Nat) (s : PS) (l : List Nat), Er s (shapeLoopP L f s l).1 := by
  intro f
  induction f with
  | zero => intro s l; exact Er.refl s
  | succ f ih =>
    intro s l
    rw [shapeLoopP]
    split
    · exact (Er.adv.trans Er.number).trans (ih _ _)
    · exact Er.want _
theorem shape_er (L : List Tok) (f : Nat) (s : PS) : Er s (shapeP L f s).1 := by
  unfold shapeP
  dsimp only
  split
  · exact (Er.want _).trans Er.adv
  · exact ((Er.want _).trans Er.number).trans (shapeLoop_er L f _ _)
theorem body_i {L : List Tok} {f : Nat} {s : PS} (h : (bodyP L f s).1.err = none) : s.i + 1 ≤ (bodyP L f s).1.i := by
  unfold bodyP at h ⊢
  split
  · rename_i h1; rw [if_pos h1] at h; exact absurd h (fail_some _ _ _)
  · rename_i h1
    rw [if_neg h1] at h
    split
    · rename_i h2
      exact (((G.number (L := L) (advP s)).trans (G.name _)).trans (shape_G f _)).hi
    · rename_i h2
      rw [if_neg h2] at h
      split
      · exact (((G.name (L := L) (advP s)).trans (G.want _ _)).trans ((allG L f).expr _)).hi
      · rename_i h3
        rw [if_neg h3] at h
        split
        · exact (G.name (L := L) (advP s)).hi
        · rename_i h4
          rw [if_neg h4] at h
          exact absurd h (fail_some _ _ _)
section
variable {A B : List Tok} {m : Nat} {s : PS}
theorem shapeLoop_eq (h : Agr A B m) : ∀ (f : Nat) (s : PS) (l : List Nat), s.i ≤ m → Fin m (shapeLoopP A f s l).1 → shapeLoopP B f s l = shapeLoopP A f s l := by
  intro f
  induction f with
  | zero => intro s l _ _; rfl
  | succ f ih =>
    intro s l hs hf
    rw [shapeLoopP] at hf
    rw [shapeLoopP, shapeLoopP]
    cases hq : isP A s tComma with
    | true =>
      rw [hq] at hf
      simp only [if_true] at hf
      have h1 := hf.back (shape_ss f f _ _) (shapeLoop_er A f _ _)
      obtain ⟨h3, h4⟩ := (h1.back (G.number _) Er.number).adv
      rw [is_eq h hs tComma (fun _ => h4), hq]
      simp only [if_true]
      rw [(number_eq h h1).1, ih _ _ h1.2 hf]
    | false =>
      rw [hq] at hf
      have h1 : Fin m (wantP A s tKet) := hf
      rw [is_eq h hs tComma (fun hx => by rw [hq] at hx; cases hx), hq]
      simp only [Bool.false_eq_true, if_false]
      rw [(want_eq h tKet h1).1]
theorem shape_eq (h : Agr A B m) (f : Nat) (s : PS) (hf : Fin m (shapeP A f s).1) : shapeP B f s = shapeP A f s := by
  unfold shapeP at hf ⊢
  dsimp only at hf ⊢
  cases hq : isP A (wantP A s tBra) tKet with
  | true =>
    rw [hq] at hf
    have h1 : Fin m (advP (wantP A s tBra)) := hf
    obtain ⟨h2, h3⟩ := h1.adv
    rw [(want_eq h tBra h2).1, is_eq h h2.2 tKet (fun _ => h3), hq]
    rfl
  | false =>
    rw [hq] at hf
    have h0 : Fin m (shapeLoopP A f (numberP A (wantP A s tBra)).1 [(numberP A (wantP A s tBra)).2]).1 := hf
    have h1 := h0.back (shape_ss f f _ _) (shapeLoop_er A f _ _)
    have h2 := h1.back (G.number _) Er.number
    rw [(want_eq h tBra h2).1, is_eq h h2.2 tKet (fun hx => by rw [hq] at hx; cases hx), hq]
    simp only [Bool.false_eq_true, if_false]
    rw [(number_eq h h1).1, shapeLoop_eq h f _ _ h1.2 h0]
theorem body_eq (h : Agr A B m) (f : Nat) (s : PS) (hf : Fin m (bodyP A f s).1) : bodyP B f s = bodyP A f s := by
  have hi := body_i hf.1
  have hlt : s.i < m := by have := hf.2; omega
  unfold bodyP at hf ⊢
  rw [now_eq h hlt, is_eq h (Nat.le_of_lt hlt) tInput (fun _ => hlt), is_eq h (Nat.le_of_lt hlt) tLet (fun _ => hlt), is_eq h (Nat.le_of_lt hlt) tOutput (fun _ => hlt)]
  split
  · rename_i h1; rw [if_pos h1] at hf; exact absurd hf.1 (fail_some _ _ _)
  · rename_i h1
    rw [if_neg h1] at hf
    split
    · rename_i h2
      rw [if_pos h2] at hf
      have h3 : Fin m (shapeP A f (nameP A (numberP A (advP s)).1).1).1 := hf
      have h4 := h3.back (shape_G f _) (shape_er A f _)
      have h5 := h4.back (G.name _) Er.name
      dsimp only
      rw [(number_eq h h5).1, (name_eq h h4).1, shape_eq h f _ h3]
    · rename_i h2
      rw [if_neg h2] at hf
      split
      · rename_i h3
        rw [if_pos h3] at hf
        have h4 : Fin m (exprP A f (wantP A (nameP A (advP s)).1 tEq)).1 := hf
        have h5 := h4.back ((allG A f).expr _) ((allE A f).expr _)
        have h6 := h5.back (G.want _ _) (Er.want _)
        dsimp only
        rw [(name_eq h h6).1, (want_eq h tEq h5).1, (allL h f).expr _ h5.2 h4]
      · rename_i h3
        rw [if_neg h3] at hf
        split
        · rename_i h4
          rw [if_pos h4] at hf
          have h5 : Fin m (nameP A (advP s)).1 := hf
          rw [(name_eq h h5).1]
        · rename_i h4
          rw [if_neg h4] at hf
          exact absurd hf.1 (fail_some _ _ _)
theorem body_er (L : List Tok) (f : Nat) (s : PS) : Er s (bodyP L f s).1 := by
  unfold bodyP
  split
  · exact Er.fail _
  · split
    · exact ((Er.adv.trans Er.number).trans Er.name).trans (shape_er L f _)
    · split
      · exact ((Er.adv.trans Er.name).trans (Er.want _)).trans ((allE L f).expr _)
      · split
        · exact Er.adv.trans Er.name
        · exact Er.fail _
theorem loop_er (L : List Tok) (f : Nat) : ∀ (n : Nat) (s : PS), Er s (parseLoopP L n f s) := by
  intro n
  induction n with
  | zero => intro s; exact Er.refl s
  | succ n ih =>
    intro s
    unfold parseLoopP
    split
    · have h1 : Er s (stmtP L f s) := fun hx => ((body_er L f s).trans (Er.want tSemi)) hx
      exact h1.trans (ih _)
    · exact Er.refl s
/-- The loop has come to its end. -/
theorem loop_end (L : List Tok) (f : Nat) : ∀ (n : Nat) (s : PS), s.i ≤ L.length → 2 * (L.length - s.i) + errN s ≤ n → (parseLoopP L n f s).err ≠ none ∨ (nowP L (parseLoopP L n f s)).kind = 0 := by
  intro n
  induction n with
  | zero =>
    intro s hs hn
    left
    show s.err ≠ none
    intro he
    unfold errN at hn
    rw [if_pos he] at hn
    omega
  | succ n ih =>
    intro s hs hn
    by_cases hc : s.err = none ∧ (nowP L s).kind ≠ 0
    · have e : parseLoopP L (n + 1) f s = parseLoopP L n f (stmtP L f s) := by
        show (if s.err.isNone && (nowP L s).kind != 0 then parseLoopP L n f (stmtP L f s) else s) = _
        rw [if_pos (by rw [hc.1]; simp only [Option.isNone_none, Bool.true_and, bne_iff_ne]; exact hc.2)]
      rw [e]
      obtain ⟨i1, i2, i3, i4⟩ := stmt_i (L := L) f s
      refine ih _ (i3 hs) ?_
      have h1 : errN s = 1 := by unfold errN; rw [if_pos hc.1]
      by_cases hx : (stmtP L f s).err = none
      · have h2 := i2 hx
        have h3 := i3 hs
        have : errN (stmtP L f s) = 1 := by unfold errN; rw [if_pos hx]
        omega
      · have : errN (stmtP L f s) = 0 := by unfold errN; rw [if_neg hx]
        omega
    · have hd : s.err ≠ none ∨ (nowP L s).kind = 0 := by
        by_cases he : s.err = none
        · right
          by_cases hk : (nowP L s).kind = 0
          · exact hk
          · exact absurd ⟨he, hk⟩ hc
        · exact .inl he
      rw [loop_done _ _ _ hd]
      exact hd
/-- The cut list is told as wrong at its end. -/
theorem cut_loop (h : Agr A B m) (hfin : ∀ s : PS, s.i = m → (nowP B s).kind = 0) (q : Nat) (hq : ∀ s : PS, s.i = m → (nowP B s).pos = q) (hA1 : ∀ s : PS, s.i ≤ m → (nowP A s).kind ≠ 0) (hA2 : ∀ s : PS, m + 1 ≤ s.i → (nowP A s).kind = 0) (f : Nat) :
    ∀ (n : Nat) (s : PS), s.err = none → s.i ≤ m → (parseLoopP A n f s).err = none → (nowP A (parseLoopP A n f s)).kind = 0 → (parseLoopP B n f s).err = some (130, q) := by
  intro n
  induction n with
  | zero => intro s he hs h1 h2; exact absurd h2 (hA1 s hs)
  | succ n ih =>
    intro s he hs h1 h2
    have eA : parseLoopP A (n + 1) f s = parseLoopP A n f (stmtP A f s) := by
      show (if s.err.isNone && (nowP A s).kind != 0 then parseLoopP A n f (stmtP A f s) else s) = _
      rw [if_pos (by rw [he]; simp only [Option.isNone_none, Bool.true_and, bne_iff_ne]; exact hA1 s hs)]
    rw [eA] at h1 h2
    have he1 : (stmtP A f s).err = none := loop_er A f n _ h1
    have hst : stmtP A f s = putS (wantP A (bodyP A f s).1 tSemi) (bodyP A f s).2 := rfl
    have hw : (wantP A (bodyP A f s).1 tSemi).err = none := by rw [hst] at he1; exact he1
    have hwi := want_none hw
    have hbe : (bodyP A f s).1.err = none := Er.want tSemi hw
    have hbi := body_i hbe
    have hsi : (stmtP A f s).i = (bodyP A f s).1.i + 1 := by rw [hst]; exact hwi
    have hisA : isP A (bodyP A f s).1 tSemi = true := by
      cases hx : isP A (bodyP A f s).1 tSemi with
      | true => rfl
      | false =>
        have : wantP A (bodyP A f s).1 tSemi = failP A (bodyP A f s).1 130 := by unfold wantP; rw [hx]; rfl
        rw [this] at hw
        exact absurd hw (fail_some _ _ _)
    have hbm : (bodyP A f s).1.i ≤ m := by
      by_cases hx : (bodyP A f s).1.i ≤ m
      · exact hx
      · have := hA2 (bodyP A f s).1 (by omega)
        have := (isP_kind hisA).2.1
        omega
    have hfb : Fin m (bodyP A f s).1 := ⟨hbe, hbm⟩
    have hbeq := body_eq h f s hfb
    have hlt : s.i < m := by omega
    have eB : parseLoopP B (n + 1) f s = parseLoopP B n f (stmtP B f s) := by
      show (if s.err.isNone && (nowP B s).kind != 0 then parseLoopP B n f (stmtP B f s) else s) = _
      rw [if_pos (by rw [he, now_eq h hlt]; simp only [Option.isNone_none, Bool.true_and, bne_iff_ne]; exact hA1 s hs)]
    rw [eB]
    have hstB : stmtP B f s = putS (wantP B (bodyP A f s).1 tSemi) (bodyP A f s).2 := by
      show putS (wantP B (bodyP B f s).1 tSemi) (bodyP B f s).2 = _
      rw [hbeq]
    by_cases hm : (bodyP A f s).1.i < m
    · have hweq := (want_eq h tSemi (show Fin m (wantP A (bodyP A f s).1 tSemi) from ⟨hw, by omega⟩)).1
      have e : stmtP B f s = stmtP A f s := by rw [hstB, hweq, hst]
      rw [e]
      exact ih _ he1 (by omega) h1 h2
    · have hbm2 : (bodyP A f s).1.i = m := by omega
      have hisB : isP B (bodyP A f s).1 tSemi = false := by
        cases hx : isP B (bodyP A f s).1 tSemi with
        | false => rfl
        | true =>
          have h3 := (isP_kind hx).2.1
          rw [hfin _ hbm2] at h3
          omega
      have hwB : wantP B (bodyP A f s).1 tSemi = { (bodyP A f s).1 with err := some (130, q) } := by
        unfold wantP
        rw [hisB]
        simp only [Bool.false_eq_true, if_false]
        unfold failP
        rw [hbe, hq _ hbm2]
      have e : stmtP B f s = putS { (bodyP A f s).1 with err := some (130, q) } (bodyP A f s).2 := by rw [hstB, hwB]
      rw [e, loop_done _ _ _ (.inl (by simp [putS]))]
      rfl
end
/-- ParseCut's plain law. -/
theorem cut_law {r0 : List Tok} {t z : Tok} (hr : ∀ x ∈ r0 ++ [t], x.kind ≠ 0) (hz : z.kind = 0) (F : Nat) (hF : 2 * (r0.length + 2) + 1 ≤ F) (hok : (parseP F (r0 ++ [t] ++ [z])).err = none) :
    (parseP F (r0 ++ [z])).err = some (130, z.pos) := by
  have hlen : (r0 ++ [t] ++ [z]).length = r0.length + 2 := by simp
  have hag : Agr (r0 ++ [t] ++ [z]) (r0 ++ [z]) r0.length := by
    refine ⟨fun i hi => ?_, fun s hs => ?_⟩
    · rw [List.append_assoc, List.getElem?_append_left hi, List.getElem?_append_left hi]
    · left
      unfold nowP
      rw [hs, List.getElem?_append_right (Nat.le_refl _), Nat.sub_self]
      exact hz
  have hend := loop_end (r0 ++ [t] ++ [z]) F F startP (Nat.zero_le _) (by show 2 * ((r0 ++ [t] ++ [z]).length - 0) + 1 ≤ F; omega)
  have hk : (nowP (r0 ++ [t] ++ [z]) (parseLoopP (r0 ++ [t] ++ [z]) F F startP)).kind = 0 := by
    rcases hend with h1 | h1
    · exact absurd hok h1
    · exact h1
  refine cut_loop hag (fun s hs => by unfold nowP; rw [hs, List.getElem?_append_right (Nat.le_refl _), Nat.sub_self]; exact hz) z.pos (fun s hs => ?_) (fun s hs => ?_) (fun s hs => ?_) F F startP rfl (Nat.zero_le _) hok hk
  · unfold nowP
    rw [hs, List.getElem?_append_right (Nat.le_refl _), Nat.sub_self]
    rfl
  · unfold nowP
    rw [List.getElem?_append_left (by simp; omega), List.getElem?_eq_getElem (by simp; omega)]
    exact hr _ (List.getElem_mem _)
  · unfold nowP
    by_cases h1 : s.i = r0.length + 1
    · rw [h1, List.getElem?_append_right (by simp)]
      simp [hz]
    · rw [List.getElem?_eq_none (by rw [hlen]; omega)]
      rfl
/-- A good text with a statement has more than two tokens. -/
theorem ok_len {r : List Tok} {z : Tok} (hz : z.kind = 0) (F : Nat) (h : (parseP F (r ++ [z])).err = none) (hs : (parseP F (r ++ [z])).ss.length ≠ 0) : 2 ≤ r.length := by
  cases F with
  | zero => exact absurd rfl hs
  | succ n =>
    by_cases hk : (nowP (r ++ [z]) startP).kind = 0
    · exfalso
      apply hs
      have e : parseP (n + 1) (r ++ [z]) = startP := loop_done _ _ _ (.inr hk)
      rw [e]
      rfl
    · have e : parseP (n + 1) (r ++ [z]) = parseLoopP (r ++ [z]) n (n + 1) (stmtP (r ++ [z]) (n + 1) startP) := by
        show (if startP.err.isNone && (nowP (r ++ [z]) startP).kind != 0 then parseLoopP (r ++ [z]) n (n + 1) (stmtP (r ++ [z]) (n + 1) startP) else startP) = _
        rw [if_pos]
        show (true && _) = true
        rw [Bool.true_and, bne_iff_ne]
        exact hk
      rw [e] at h
      have he1 : (stmtP (r ++ [z]) (n + 1) startP).err = none := loop_er _ _ n _ h
      have hw : (wantP (r ++ [z]) (bodyP (r ++ [z]) (n + 1) startP).1 tSemi).err = none := he1
      have hbe : (bodyP (r ++ [z]) (n + 1) startP).1.err = none := Er.want tSemi hw
      have hbi := body_i hbe
      have his : isP (r ++ [z]) (bodyP (r ++ [z]) (n + 1) startP).1 tSemi = true := by
        cases hx : isP (r ++ [z]) (bodyP (r ++ [z]) (n + 1) startP).1 tSemi with
        | true => rfl
        | false =>
          have e2 : wantP (r ++ [z]) (bodyP (r ++ [z]) (n + 1) startP).1 tSemi = failP (r ++ [z]) (bodyP (r ++ [z]) (n + 1) startP).1 130 := by unfold wantP; rw [hx]; rfl
          rw [e2] at hw
          exact absurd hw (fail_some _ _ _)
      have hkk := (isP_kind his).2.1
      have h0 : startP.i = 0 := rfl
      by_cases hlt : (bodyP (r ++ [z]) (n + 1) startP).1.i < r.length
      · omega
      · exfalso
        have hz' : (nowP (r ++ [z]) (bodyP (r ++ [z]) (n + 1) startP).1).kind = 0 := by
          unfold nowP
          by_cases he : (bodyP (r ++ [z]) (n + 1) startP).1.i = r.length
          · rw [he, List.getElem?_append_right (Nat.le_refl _), Nat.sub_self]
            exact hz
          · rw [List.getElem?_eq_none (by simp; omega)]
            rfl
        omega
end Go.Proofs.YtcefclglmhpdeaaGreatDoor
