/-
  Two good texts one behind the other: their tokens, their tree. No program.
-/
import Derived.Test.YtcefclglmhpdeaaGreatDoorQJoinL
namespace Go.Proofs.YtcefclglmhpdeaaGreatDoor
set_option linter.unusedVariables false
set_option linter.unusedSimpArgs false
open Go.RowKit
section
variable {A B : List Tok} {o : Off} {s : PS}
theorem shapeLoop_sh (h : Sh A B o) : ∀ (f : Nat) (s : PS) (l : List Nat), (shapeLoopP A f s l).1.err = none → shapeLoopP B f (o.st s) l = (o.st (shapeLoopP A f s l).1, (shapeLoopP A f s l).2) := by
  intro f
  induction f with
  | zero => intro s l _; rfl
  | succ f ih =>
    intro s l hf
    simp only [shapeLoopP] at hf ⊢
    rw [is_sh h]
    cases hq : isP A s tComma with
    | true =>
      rw [hq] at hf
      simp only [if_true] at hf ⊢
      have h1 := shapeLoop_er A f _ _ hf
      rw [adv_sh, number_sh h h1]
      exact ih _ _ hf
    | false =>
      rw [hq] at hf
      simp only [Bool.false_eq_true, if_false] at hf ⊢
      rw [want_sh h hf]
theorem shape_sh (h : Sh A B o) (f : Nat) (s : PS) (hf : (shapeP A f s).1.err = none) : shapeP B f (o.st s) = (o.st (shapeP A f s).1, (shapeP A f s).2) := by
  unfold shapeP at hf ⊢
  dsimp only at hf ⊢
  cases hq : isP A (wantP A s tBra) tKet with
  | true =>
    rw [hq] at hf
    simp only [if_true] at hf ⊢
    have h1 : (wantP A s tBra).err = none := hf
    rw [want_sh h h1, is_sh h, hq]
    simp only [if_true, adv_sh]
  | false =>
    rw [hq] at hf
    simp only [Bool.false_eq_true, if_false] at hf ⊢
    have h1 := shapeLoop_er A f _ _ hf
    have h2 : (wantP A s tBra).err = none := Er.number h1
    rw [want_sh h h2, is_sh h, hq]
    simp only [Bool.false_eq_true, if_false]
    rw [number_sh h h1]
    exact shapeLoop_sh h f _ _ hf
theorem body_sh (h : Sh A B o) (f : Nat) (s : PS) (hw : 12 * A.length + 20 ≤ f) (hss : (o.st s).ss.length ≠ 64) (hf : (bodyP A f s).1.err = none) : bodyP B f (o.st s) = (o.st (bodyP A f s).1, shS o.k o.d (bodyP A f s).2) := by
  unfold bodyP at hf ⊢
  rw [if_neg hss, is_sh h, is_sh h, is_sh h]
  by_cases h1 : s.ss.length = 64
  · rw [if_pos h1] at hf
    exact absurd hf (fail_some _ _ _)
  · rw [if_neg h1] at hf ⊢
    dsimp only at hf ⊢
    cases h2 : isP A s tInput with
    | true =>
      rw [h2] at hf
      simp only [if_true] at hf ⊢
      have x1 := shape_er A f _ hf
      have x2 := Er.name x1
      rw [adv_sh, number_sh h x2]
      dsimp only
      rw [name_sh h x1]
      dsimp only
      rw [shape_sh h f _ hf, pos_sh h h2]
      rfl
    | false =>
      rw [h2] at hf
      simp only [Bool.false_eq_true, if_false] at hf ⊢
      cases h3 : isP A s tLet with
      | true =>
        rw [h3] at hf
        simp only [if_true] at hf ⊢
        have x1 := (allE A f).expr _ hf
        have x2 := Er.want _ x1
        have i1 := (G.want (L := A) (nameP A (advP s)).1 tEq).hi
        rw [adv_sh, name_sh h x2]
        dsimp only
        rw [want_sh h x1, (allSh h f).expr _ (by omega) hf, pos_sh h h3]
        rfl
      | false =>
        rw [h3] at hf
        simp only [Bool.false_eq_true, if_false] at hf ⊢
        cases h4 : isP A s tOutput with
        | true =>
          rw [h4] at hf
          simp only [if_true] at hf ⊢
          rw [adv_sh, name_sh h hf, pos_sh h h4]
          rfl
        | false =>
          rw [h4] at hf
          simp only [Bool.false_eq_true, if_false] at hf
          exact absurd hf (fail_some _ _ _)
theorem putS_sh (o : Off) (s : PS) (x : Sm) : putS (o.st s) (shS o.k o.d x) = o.st (putS s x) := by
  unfold putS Off.st
  simp
theorem stmt_sh (h : Sh A B o) (f : Nat) (s : PS) (hw : 12 * A.length + 20 ≤ f) (hss : (o.st s).ss.length ≠ 64) (hf : (stmtP A f s).err = none) : stmtP B f (o.st s) = o.st (stmtP A f s) := by
  have h1 : (wantP A (bodyP A f s).1 tSemi).err = none := hf
  show putS (wantP B (bodyP B f (o.st s)).1 tSemi) (bodyP B f (o.st s)).2 = o.st (putS (wantP A (bodyP A f s).1 tSemi) (bodyP A f s).2)
  rw [body_sh h f s hw hss (Er.want tSemi h1)]
  dsimp only
  rw [want_sh h h1]
  exact putS_sh o _ _
theorem loop_ss (L : List Tok) (f : Nat) : ∀ (n : Nat) (s : PS), s.ss.length ≤ (parseLoopP L n f s).ss.length := by
  intro n
  induction n with
  | zero => intro s; exact Nat.le_refl _
  | succ n ih =>
    intro s
    rw [parseLoopP]
    split
    · have := ih (stmtP L f s)
      have := (stmt_i (L := L) f s).2.2.2
      omega
    · exact Nat.le_refl _
theorem loop_sh (h : Sh A B o) (f : Nat) (hw : 12 * A.length + 20 ≤ f) : ∀ (n : Nat) (s : PS), (parseLoopP A n f s).err = none → o.ss0.length + (parseLoopP A n f s).ss.length ≤ 64 → parseLoopP B n f (o.st s) = o.st (parseLoopP A n f s) := by
  intro n
  induction n with
  | zero => intro s _ _; rfl
  | succ n ih =>
    intro s hf hl
    rw [parseLoopP] at hf hl
    rw [parseLoopP, parseLoopP]
    rw [st_none, (h.now s (o.st s) rfl).1]
    split
    · rename_i hc
      rw [if_pos hc] at hf hl
      have h1 := loop_er A f n _ hf
      have h2 := loop_ss A f n (stmtP A f s)
      have h3 := (stmt_i (L := A) f s).2.2.2
      rw [stmt_sh h f s hw (by show ¬ (o.ss0 ++ s.ss.map (shS o.k o.d)).length = 64; rw [List.length_append, List.length_map]; omega) h1]
      exact ih _ hf hl
    · rfl
theorem loop_add (L : List Tok) (f : Nat) : ∀ (a b : Nat) (s : PS), parseLoopP L (a + b) f s = parseLoopP L b f (parseLoopP L a f s) := by
  intro a
  induction a with
  | zero => intro b s; rw [Nat.zero_add]; rfl
  | succ a ih =>
    intro b s
    by_cases hc : (s.err.isNone && (nowP L s).kind != 0) = true
    · rw [show a + 1 + b = (a + b) + 1 from by omega]
      have e1 : parseLoopP L (a + b + 1) f s = parseLoopP L (a + b) f (stmtP L f s) := by rw [parseLoopP, if_pos hc]
      have e2 : parseLoopP L (a + 1) f s = parseLoopP L a f (stmtP L f s) := by rw [parseLoopP, if_pos hc]
      rw [e1, e2, ih]
    · have hd : s.err ≠ none ∨ (nowP L s).kind = 0 := by
        by_cases he : s.err = none
        · right
          rw [he] at hc
          simpa using hc
        · exact .inl he
      rw [loop_done _ _ _ hd, loop_done _ _ _ hd, loop_done _ _ _ hd]
theorem loop_enough (L : List Tok) (f n n' : Nat) (s : PS) (hs : s.i ≤ L.length) (h : 2 * (L.length - s.i) + errN s ≤ n) (h' : n ≤ n') : parseLoopP L n' f s = parseLoopP L n f s := by
  obtain ⟨b, rfl⟩ : ∃ b, n' = n + b := ⟨n' - n, by omega⟩
  rw [loop_add]
  exact loop_done _ _ _ (loop_end L f n s hs h)
theorem body_deep (L : List Tok) (f : Nat) (s : PS) : (bodyP L f s).1.deep = s.deep := by
  unfold bodyP
  split
  · exact (G.fail (L := L) s 5).hd
  · split
    · exact (((G.number (L := L) (advP s)).trans (G.name _)).trans (shape_G f _)).hd
    · split
      · exact (((G.name (L := L) (advP s)).trans (G.want _ _)).trans ((allG L f).expr _)).hd
      · split
        · exact (G.name (L := L) (advP s)).hd
        · exact (G.fail (L := L) s 130).hd
theorem loop_deep (L : List Tok) (f : Nat) : ∀ (n : Nat) (s : PS), (parseLoopP L n f s).deep = s.deep := by
  intro n
  induction n with
  | zero => intro s; rfl
  | succ n ih =>
    intro s
    rw [parseLoopP]
    split
    · rw [ih]
      show (wantP L (bodyP L f s).1 tSemi).deep = s.deep
      rw [(G.want (L := L) (bodyP L f s).1 tSemi).hd]
      exact body_deep L f s
    · rfl
end
/-- The first text's part: the same statements, then the tokens go on. -/
theorem join_first {r0 M : List Tok} {z : Tok} (hr : ∀ x ∈ r0, x.kind ≠ 0) (hz : z.kind = 0) (f : Nat) : ∀ (n : Nat) (s : PS), s.i ≤ r0.length → (parseLoopP (r0 ++ [z]) n f s).err = none → (nowP (r0 ++ [z]) (parseLoopP (r0 ++ [z]) n f s)).kind = 0 →
    ∃ n', parseLoopP (r0 ++ M) n f s = parseLoopP (r0 ++ M) n' f (parseLoopP (r0 ++ [z]) n f s) ∧ (parseLoopP (r0 ++ [z]) n f s).i = r0.length ∧ n ≤ n' + (r0.length - s.i) := by
  have hA : ∀ s : PS, s.i < r0.length → (nowP (r0 ++ [z]) s).kind ≠ 0 ∧ nowP (r0 ++ M) s = nowP (r0 ++ [z]) s := fun s hs => by
    unfold nowP
    rw [List.getElem?_append_left hs, List.getElem?_append_left hs, List.getElem?_eq_getElem hs]
    exact ⟨hr _ (List.getElem_mem _), rfl⟩
  have hZ : ∀ s : PS, r0.length ≤ s.i → (nowP (r0 ++ [z]) s).kind = 0 := fun s hs => by
    unfold nowP
    rw [List.getElem?_append_right hs]
    by_cases h1 : s.i = r0.length
    · rw [h1, Nat.sub_self]; exact hz
    · rw [List.getElem?_eq_none (by simp; omega)]; rfl
  have hat : ∀ s : PS, s.i ≤ r0.length → (nowP (r0 ++ [z]) s).kind = 0 → s.i = r0.length := fun s hs hk => by
    by_cases h1 : s.i < r0.length
    · exact absurd hk (hA s h1).1
    · omega
  intro n
  induction n with
  | zero =>
    intro s hs h1 h2
    exact ⟨0, rfl, hat s hs h2, Nat.zero_le _⟩
  | succ n ih =>
    intro s hs h1 h2
    by_cases hk : (nowP (r0 ++ [z]) s).kind = 0
    · have e := hat s hs hk
      rw [loop_done _ _ _ (.inr hk)] at h1 h2 ⊢
      exact ⟨n + 1, rfl, e, by omega⟩
    · have hlt : s.i < r0.length := by
        by_cases h3 : s.i < r0.length
        · exact h3
        · exact absurd (hZ s (by omega)) hk
      have he : s.err = none := loop_er _ f (n + 1) _ h1
      have eA : parseLoopP (r0 ++ [z]) (n + 1) f s = parseLoopP (r0 ++ [z]) n f (stmtP (r0 ++ [z]) f s) := by
        rw [parseLoopP, if_pos]
        rw [he]
        simpa using hk
      have eB : parseLoopP (r0 ++ M) (n + 1) f s = parseLoopP (r0 ++ M) n f (stmtP (r0 ++ M) f s) := by
        rw [parseLoopP, if_pos]
        rw [he, (hA s hlt).2]
        simpa using hk
      rw [eA] at h1 h2 ⊢
      have he1 : (stmtP (r0 ++ [z]) f s).err = none := loop_er _ f n _ h1
      have hw : (wantP (r0 ++ [z]) (bodyP (r0 ++ [z]) f s).1 tSemi).err = none := he1
      have hbe : (bodyP (r0 ++ [z]) f s).1.err = none := Er.want tSemi hw
      have hbi := body_i hbe
      have his : isP (r0 ++ [z]) (bodyP (r0 ++ [z]) f s).1 tSemi = true := by
        cases hx : isP (r0 ++ [z]) (bodyP (r0 ++ [z]) f s).1 tSemi with
        | true => rfl
        | false =>
          rw [wantP, hx] at hw
          exact absurd hw (fail_some _ _ _)
      have hbl : (bodyP (r0 ++ [z]) f s).1.i < r0.length := by
        by_cases h3 : (bodyP (r0 ++ [z]) f s).1.i < r0.length
        · exact h3
        · have h4 := hZ (bodyP (r0 ++ [z]) f s).1 (by omega)
          have h5 := (isP_kind his).2.1
          omega
      have hag : Agr (r0 ++ [z]) (r0 ++ M) (r0.length - 1) := ⟨fun i hi => by rw [List.getElem?_append_left (by omega), List.getElem?_append_left (by omega)], fun s hs => .inr (hA s (by omega)).2⟩
      have hbq := body_eq hag f s ⟨hbe, by omega⟩
      have hst : stmtP (r0 ++ M) f s = stmtP (r0 ++ [z]) f s := by
        show putS (wantP (r0 ++ M) (bodyP (r0 ++ M) f s).1 tSemi) (bodyP (r0 ++ M) f s).2 = putS (wantP (r0 ++ [z]) (bodyP (r0 ++ [z]) f s).1 tSemi) (bodyP (r0 ++ [z]) f s).2
        rw [hbq]
        have h3 := (hA _ hbl).2
        have h4 : wantP (r0 ++ M) (bodyP (r0 ++ [z]) f s).1 tSemi = wantP (r0 ++ [z]) (bodyP (r0 ++ [z]) f s).1 tSemi := by
          unfold wantP isP failP
          rw [h3]
        rw [h4]
      have hsi : (stmtP (r0 ++ [z]) f s).i = (bodyP (r0 ++ [z]) f s).1.i + 1 := want_none hw
      obtain ⟨n', a1, a2, a3⟩ := ih (stmtP (r0 ++ [z]) f s) (by omega) h1 h2
      exact ⟨n', by rw [eB, hst]; exact a1, a2, by omega⟩
/-- The joined law of the parser. -/
theorem join_law {r0 r1 : List Tok} {z0 z1 : Tok} (d F : Nat) (h0 : ∀ x ∈ r0, x.kind ≠ 0) (hz0 : z0.kind = 0) (hz1 : z1.kind = 0) (hF : 12 * (r0.length + r1.length + 2) + 20 ≤ F)
    (hA : (parseP F (r0 ++ [z0])).err = none) (hC : (parseP F (r1 ++ [z1])).err = none) (hl : (parseP F (r0 ++ [z0])).ss.length + (parseP F (r1 ++ [z1])).ss.length ≤ 64) :
    parseP F (r0 ++ (r1 ++ [z1]).map (shT d)) = (⟨r0.length, d, (parseP F (r0 ++ [z0])).ss, (parseP F (r0 ++ [z0])).es⟩ : Off).st (parseP F (r1 ++ [z1])) := by
  obtain ⟨R0, hR0⟩ : ∃ R0, R0 = parseP F (r0 ++ [z0]) := ⟨_, rfl⟩
  rw [← hR0] at hA hl ⊢
  obtain ⟨o, ho⟩ : ∃ o, o = (⟨r0.length, d, R0.ss, R0.es⟩ : Off) := ⟨_, rfl⟩
  rw [← ho]
  have hend := loop_end (r0 ++ [z0]) F F startP (Nat.zero_le _) (by show 2 * ((r0 ++ [z0]).length - 0) + 1 ≤ F; simp; omega)
  have hk : (nowP (r0 ++ [z0]) (parseLoopP (r0 ++ [z0]) F F startP)).kind = 0 := by
    rcases hend with h1 | h1
    · have : (parseLoopP (r0 ++ [z0]) F F startP).err = none := by rw [← hA, hR0]; rfl
      exact absurd this h1
    · exact h1
  have hA' : (parseLoopP (r0 ++ [z0]) F F startP).err = none := by rw [← hA, hR0]; rfl
  obtain ⟨n', a1, a2, a3⟩ := join_first (M := (r1 ++ [z1]).map (shT d)) h0 hz0 F F startP (Nat.zero_le _) hA' hk
  have hsh : Sh (r1 ++ [z1]) (r0 ++ (r1 ++ [z1]).map (shT d)) o := by
    refine ⟨fun s s' hs => ?_⟩
    have e : nowP (r0 ++ (r1 ++ [z1]).map (shT d)) s' = ((r1 ++ [z1])[s.i]?.map (shT d)).getD zTok := by
      unfold nowP
      rw [hs, ho]
      dsimp only
      rw [List.getElem?_append_right (by omega), Nat.add_sub_cancel, List.getElem?_map]
    rw [e]
    unfold nowP
    have hod : o.d = d := by rw [ho]
    cases hx : (r1 ++ [z1])[s.i]? with
    | none => exact ⟨rfl, rfl, rfl, fun h => absurd rfl h⟩
    | some t => exact ⟨rfl, rfl, rfl, fun _ => by rw [hod]; rfl⟩
  have he1 : parseLoopP (r0 ++ [z0]) F F startP = o.st startP := by
    have e0 : parseLoopP (r0 ++ [z0]) F F startP = R0 := by rw [hR0]; rfl
    have e1 := loop_deep (r0 ++ [z0]) F F startP
    rw [e0] at e1 a2 ⊢
    rw [ho]
    obtain ⟨i, ss, es, dp, er⟩ := R0
    dsimp only at e1 a2 hA
    subst a2 e1 hA
    unfold Off.st startP
    simp
  have hn : 2 * ((r1 ++ [z1]).length - startP.i) + errN startP ≤ n' := by
    show 2 * ((r1 ++ [z1]).length - 0) + 1 ≤ n'
    have : startP.i = 0 := rfl
    rw [this] at a3
    simp
    omega
  have hnn : n' ≤ F ∨ F ≤ n' := by omega
  have hcn : parseLoopP (r1 ++ [z1]) n' F startP = parseP F (r1 ++ [z1]) := by
    rcases hnn with h1 | h1
    · exact (loop_enough _ F n' F startP (Nat.zero_le _) hn h1).symm
    · exact loop_enough _ F F n' startP (Nat.zero_le _) (by show 2 * ((r1 ++ [z1]).length - 0) + 1 ≤ F; simp; omega) h1
  show parseLoopP (r0 ++ (r1 ++ [z1]).map (shT d)) F F startP = _
  rw [a1, he1, loop_sh hsh F (by simp; omega) n' startP (by rw [hcn]; exact hC) (by rw [hcn, ho]; exact hl), hcn]
/-! ### Tokens -/
theorem toks_shift (d : Nat) {p : Nat} {L : List UInt8} {r : List Tok} (h : Toks p L r) : Toks (p + d) L (r.map (shT d)) := by
  induction h with
  | done p L h => exact Toks.done _ _ h
  | tok p L t n v r h h1 h2 ih =>
    have := Toks.tok (p + d) L t n v _ h h1 (by rw [show p + d + skipN false L + n = p + skipN false L + n + d from by omega]; exact ih)
    rw [show p + d + skipN false L = p + skipN false L + d from by omega] at this
    exact this
theorem toks_behind {p : Nat} {L R : List UInt8} {r1 : List Tok} (hL : skipN false L = L.length) (h : Toks (p + L.length + 1) R r1) : Toks p (L ++ 10 :: R) r1 := by
  have hs := skip_ext R L false hL
  have e1 : ∀ k, (L ++ 10 :: R).drop (L.length + 1 + k) = R.drop k := fun k => by
    rw [← List.drop_drop]
    congr 1
    rw [List.drop_append]
    simp
  obtain ⟨q, hq⟩ : ∃ q, q = p + L.length + 1 := ⟨_, rfl⟩
  rw [← hq] at h
  cases h with
  | done _ _ h => exact Toks.done _ _ (by rw [hs, h, List.length_append, List.length_cons]; omega)
  | tok _ _ t n v r h h1 h2 =>
    have := Toks.tok p (L ++ 10 :: R) t n v r (by rw [hs, List.length_append, List.length_cons]; omega) (by rw [hs, e1]; exact h1) (by
      rw [hs, show L.length + 1 + skipN false R + n = L.length + 1 + (skipN false R + n) from by omega, e1, show p + (L.length + 1 + skipN false R) + n = q + skipN false R + n from by omega]
      exact h2)
    rw [hs, e1, show p + (L.length + 1 + skipN false R) = q + skipN false R from by omega] at this
    exact this
theorem toks_join {p : Nat} {L : List UInt8} {r : List Tok} (h : Toks p L r) {R : List UInt8} {r1 : List Tok} (hR : Toks (p + L.length + 1) R r1) : Toks p (L ++ 10 :: R) (r ++ r1) := by
  induction h with
  | done p L h => exact toks_behind h hR
  | tok p L t' n v' r h h1 h2 ih =>
    have hs := skip_more (10 :: R) L false h
    obtain ⟨o1, o2, o3, o4⟩ := one_pos h1
    rw [List.length_drop] at o2
    have ed : (L ++ 10 :: R).drop (skipN false L) = L.drop (skipN false L) ++ 10 :: R := List.drop_append_of_le_length (by omega)
    have ed2 : (L ++ 10 :: R).drop (skipN false L + n) = L.drop (skipN false L + n) ++ 10 :: R := List.drop_append_of_le_length (by omega)
    have et : (L.drop (skipN false L) ++ 10 :: R).take n = (L.drop (skipN false L)).take n := List.take_append_of_le_length (by rw [List.length_drop]; omega)
    have ho : oneL (L.drop (skipN false L) ++ 10 :: R) = some (t', n, v') := by
      refine one_local h1 et (by rw [List.length_append, List.length_drop]; omega) fun c hc => ?_
      by_cases hn : n < (L.drop (skipN false L)).length
      · rw [List.getElem?_append_left hn] at hc; exact .inr hc
      · rw [List.getElem?_append_right (by omega), show n - (L.drop (skipN false L)).length = 0 from by rw [List.length_drop] at hn ⊢; omega] at hc
        simp at hc
        subst hc
        exact .inl (by decide)
    have hR' : Toks (p + skipN false L + n + (L.drop (skipN false L + n)).length + 1) R r1 := by
      rw [List.length_drop, show p + skipN false L + n + (L.length - (skipN false L + n)) + 1 = p + L.length + 1 from by omega]
      exact hR
    have := Toks.tok p (L ++ 10 :: R) t' n v' _ (by rw [hs, List.length_append]; omega) (by rw [hs, ed]; exact ho) (by rw [hs, ed2]; exact ih hR')
    rw [hs, ed, et] at this
    exact this
theorem scan_join {a b s : ByteArray} {r0 r1 : List Tok} (h0 : Toks 0 a.data.toList r0) (h1 : Toks 0 b.data.toList r1) (hs : s.data.toList = a.data.toList ++ 10 :: b.data.toList) (hsz : a.size + 1 + b.size ≤ 4096) (hl : r0.length + r1.length ≤ 512) :
    scanM s = .toks (r0 ++ (r1 ++ [endTok b]).map (shT (a.size + 1))) := by
  have hal : a.data.toList.length = a.size := by rw [Array.length_toList]; rfl
  have hbl : b.data.toList.length = b.size := by rw [Array.length_toList]; rfl
  have hsl : s.size = a.size + 1 + b.size := by
    have : s.data.toList.length = s.size := by rw [Array.length_toList]; rfl
    rw [← this, hs, List.length_append, List.length_cons, hal, hbl]
    omega
  have ht : Toks 0 s.data.toList (r0 ++ r1.map (shT (a.size + 1))) := by
    rw [hs]
    refine toks_join h0 ?_
    have := toks_shift (a.size + 1) h1
    rw [hal, show 0 + a.size + 1 = 0 + (a.size + 1) from by omega]
    exact this
  rw [scanM_of (by omega) ht (by rw [List.length_append, List.length_map]; exact hl)]
  congr 1
  rw [List.map_append, List.append_assoc]
  congr 2
  show [endTok s] = [shT (a.size + 1) (endTok b)]
  unfold endTok shT
  rw [hsl]
  simp [Nat.add_comm]
end Go.Proofs.YtcefclglmhpdeaaGreatDoor
