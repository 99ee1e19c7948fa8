/-
  The reference's statements, plain: what they answer, beside the parser's. No program. The reference's statements: what it needs. The reference's statements: what an input's loop needs.
-/
import Derived.Test.YtghlnncfigkkaaaGreatDoorQParM
import Derived.Test.YtghlnncfigkkaaaGreatDoorQParI
import Derived.Test.YtghlnncfigkkaaaGreatDoorQRefG
import Derived.Test.YtghlnncfigkkaaaGreatDoorQRefF2
namespace Go.Proofs.YtghlnncfigkkaaaGreatDoor
set_option linter.unusedVariables false
set_option linter.unusedSimpArgs false
open Go.RowKit
section
variable (L : List Tok)
def rshapeP : Nat → PS → List Nat → PS × List Nat
 | 0, s, l => (s, l)
 | f + 1, s, l =>
  if (!isP L s tKet) && s.err.isNone then
   let n := numberP L (if l.length = 0 then s else wantP L s tComma)
   rshapeP f n.1 (l ++ [n.2])
  else (s, l)
def rstmtP (f : Nat) (s : PS) : PS :=
 if s.ss.length = 64 then failP L s 5
 else if isP L s tInput then
  let n := numberP L (advP s)
  let m := nameP L n.1
  let h := rshapeP L (f + 1) (wantP L m.1 tBra) []
  putS (wantP L (wantP L h.1 tKet) tSemi) ⟨1, n.2, m.2, h.2, 0, (nowP L s).pos⟩
 else if isP L s tLet then
  let m := nameP L (advP s)
  let e := exprP L f (wantP L m.1 tEq)
  putS (wantP L e.1 tSemi) ⟨2, 0, m.2, [], e.2, (nowP L s).pos⟩
 else if isP L s tOutput then
  let m := nameP L (advP s)
  putS (wantP L m.1 tSemi) ⟨3, 0, m.2, [], 0, (nowP L s).pos⟩
 else failP L s 130
def rloopP : Nat → Nat → PS → PS
 | 0, _, s => s
 | n + 1, f, s => if s.err.isNone && (nowP L s).kind != 0 then rloopP n f (rstmtP L f s) else s
end
section
variable {L : List Tok} {s s' : PS}
theorem failP_err {c : Nat} (h : s.err ≠ none) : failP L s c = s := by
 unfold failP
 cases h1 : s.err with
 | none => exact absurd h1 h
 | some x => rfl
theorem failP_ne (s : PS) (c : Nat) : (failP L s c).err ≠ none := by
 unfold failP
 cases h1 : s.err with
 | none => intro h; cases h
 | some x => intro h; dsimp only at h; rw [h1] at h; cases h
theorem isP_err {t : ByteArray} (h : s.err ≠ none) : isP L s t = false := by
 unfold isP
 cases h1 : s.err with
 | none => exact absurd h1 h
 | some x => rfl
theorem wantP_err {t : ByteArray} (h : s.err ≠ none) : wantP L s t = s := by
 unfold wantP
 rw [isP_err h]
 exact failP_err h
theorem wantP_no {t : ByteArray} (h : isP L s t = false) : wantP L s t = failP L s 130 := by
 unfold wantP
 rw [h]
 rfl
theorem wantP_yes {t : ByteArray} (h : isP L s t = true) : wantP L s t = advP s := by
 unfold wantP
 rw [h]
 rfl
theorem numberP_err (h : s.err ≠ none) : numberP L s = (s, 0) := by
 unfold numberP
 have h1 : s.err.isSome = true := by
  cases h1 : s.err with
  | none => exact absurd h1 h
  | some x => rfl
 rw [h1]
 simp only [Bool.true_or, if_true, failP_err h]
theorem wantP_none {t : ByteArray} (h : (wantP L s t).err = none) : s.err = none := by
 by_cases h1 : s.err = none
 ·exact h1
 ·rw [wantP_err h1] at h
  exact h
theorem isP_two {a b : ByteArray} (h : isP L s a = true) (hne : a.toList ≠ b.toList) : isP L s b = false := by
 unfold isP at h ⊢
 simp only [Bool.and_eq_true, beq_iff_eq] at h
 have h2 : ((nowP L s).text.toList == b.toList) = false := by
  rw [beq_eq_false_iff_ne, h.2]
  exact hne
 rw [h2, Bool.and_false]
theorem comma_ket : tComma.toList ≠ tKet.toList := by unfold tComma tKet; rw [ByteArray.toList_eq, ByteArray.toList_eq]; decide
theorem shapeLoop_eq : ∀ (f : Nat) (s : PS) (l : List Nat), l ≠ [] → L.length - s.i < f →
  (shapeLoopP L f s l).1 = wantP L (rshapeP L f s l).1 tKet ∧ ((shapeLoopP L f s l).1.err = none → (shapeLoopP L f s l).2 = (rshapeP L f s l).2) := by
 intro f
 induction f with
 | zero => intro s l _ h; omega
 | succ f ih =>
  intro s l hl hf
  have hl0 : ¬ l.length = 0 := fun h => hl (List.eq_nil_of_length_eq_zero h)
  by_cases he : s.err = none
  ·cases hc : isP L s tComma with
   | true =>
    have hk : isP L s tKet = false := isP_two hc comma_ket
    have hlt := isP_lt hc
    have hn := (G.number (L := L) (advP s)).hi
    have h1 : (advP s).i = s.i + 1 := rfl
    rw [shapeLoopP, rshapeP]
    simp only [hc, hk, he, if_true, hl0, if_false, wantP_yes hc, Bool.not_false, Bool.and_self, Option.isNone_none]
    exact ih _ _ (by simp) (by omega)
   | false =>
    cases hk : isP L s tKet with
    | true =>
     rw [shapeLoopP, rshapeP]
     simp [hc, hk]
    | false =>
     have h1 := failP_ne (L := L) s 130
     rw [shapeLoopP, rshapeP]
     simp only [hc, hk, he, if_true, hl0, if_false, wantP_no hc, wantP_no hk, Bool.not_false, Bool.and_self, Option.isNone_none, numberP_err h1, Bool.false_eq_true]
     have h2 : rshapeP L f (failP L s 130) (l ++ [0]) = (failP L s 130, l ++ [0]) := by
      cases f with
      | zero => rfl
      | succ f =>
       rw [rshapeP]
       have : (failP L s 130).err.isNone = false := by
        cases h3 : (failP L s 130).err with
        | none => exact absurd h3 h1
        | some x => rfl
       simp [this]
     rw [h2]
     exact ⟨(wantP_err h1).symm, fun h => absurd h h1⟩
  ·have h1 : s.err.isNone = false := by
    cases h3 : s.err with
    | none => exact absurd h3 he
    | some x => rfl
   rw [shapeLoopP, rshapeP]
   simp [isP_err he, h1, wantP_err he]
theorem shape_eq (f : Nat) (s : PS) (hf : L.length - s.i < f) :
  (shapeP L f s).1 = wantP L (rshapeP L (f + 1) (wantP L s tBra) []).1 tKet ∧ ((shapeP L f s).1.err = none → (shapeP L f s).2 = (rshapeP L (f + 1) (wantP L s tBra) []).2) := by
 obtain ⟨s1, hs1⟩ : ∃ s1, s1 = wantP L s tBra := ⟨_, rfl⟩
 have hg := (G.want (L := L) s tBra).hi
 unfold shapeP
 rw [rshapeP, ← hs1]
 rw [← hs1] at hg
 dsimp only
 cases hk : isP L s1 tKet with
 | true => simp [wantP_yes hk]
 | false =>
  by_cases he : s1.err = none
  ·have hn := (G.number (L := L) s1).hi
   simp only [he, Bool.not_false, Bool.and_self, Option.isNone_none, if_true, List.length_nil, Bool.false_eq_true, if_false]
   exact shapeLoop_eq f _ _ (by simp) (by omega)
  ·have h1 : s1.err.isNone = false := by
    cases h3 : s1.err with
    | none => exact absurd h3 he
    | some x => rfl
   have h2 : shapeLoopP L f s1 ([] ++ [0]) = (s1, [0]) := by
    cases f with
    | zero => rfl
    | succ f => rw [shapeLoopP]; simp [isP_err he, wantP_err he]
   simp only [h1, Bool.and_false, Bool.false_eq_true, if_false, numberP_err he, wantP_err he]
   rw [List.nil_append] at h2
   rw [h2]
   exact ⟨rfl, fun h => absurd h he⟩
theorem putS_err (s : PS) (x : Sm) : (putS s x).err = s.err := rfl
theorem rstmt_eq (f : Nat) (s : PS) (hf : L.length - s.i < f) : (rstmtP L f s).err = (stmtP L f s).err ∧ ((stmtP L f s).err = none → rstmtP L f s = stmtP L f s) := by
 have hbad : ∀ (c : Nat) (x : Sm), (failP L s c).err = (putS (wantP L (failP L s c) tSemi) x).err ∧ ((putS (wantP L (failP L s c) tSemi) x).err = none → failP L s c = putS (wantP L (failP L s c) tSemi) x) := by
  intro c x
  have h1 := failP_ne (L := L) s c
  rw [wantP_err h1]
  exact ⟨rfl, fun h => absurd h h1⟩
 unfold rstmtP stmtP bodyP
 dsimp only
 split
 ·exact hbad 5 _
 ·split
  ·rename_i hi
   have hlt := isP_lt hi
   have g1 := (G.number (L := L) (advP s)).hi
   have g2 := (G.name (L := L) (numberP L (advP s)).1).hi
   have g3 : (advP s).i = s.i + 1 := rfl
   obtain ⟨h1, h2⟩ := shape_eq (L := L) f (nameP L (numberP L (advP s)).1).1 (by omega)
   dsimp only
   rw [← h1]
   refine ⟨rfl, fun h => ?_⟩
   rw [putS_err] at h
   rw [h2 (wantP_none h)]
  ·split
   ·exact ⟨rfl, fun _ => rfl⟩
   ·split
    ·exact ⟨rfl, fun _ => rfl⟩
    ·exact hbad 130 _
theorem isNone_no (h : s.err ≠ none) : s.err.isNone = false := by
 cases h3 : s.err with
 | none => exact absurd h3 h
 | some x => rfl
theorem rloop_err (n f : Nat) (h : s.err ≠ none) : rloopP L n f s = s := by
 cases n with
 | zero => rfl
 | succ n => rw [rloopP]; simp [isNone_no h]
theorem loop_err (n f : Nat) (h : s.err ≠ none) : parseLoopP L n f s = s := by
 cases n with
 | zero => rfl
 | succ n => rw [parseLoopP]; simp [isNone_no h]
theorem rloop_eq (f : Nat) (hf : L.length < f) : ∀ (n : Nat) (s : PS), (rloopP L n f s).err = (parseLoopP L n f s).err ∧ ((parseLoopP L n f s).err = none → rloopP L n f s = parseLoopP L n f s) := by
 intro n
 induction n with
 | zero => intro s; exact ⟨rfl, fun _ => rfl⟩
 | succ n ih =>
  intro s
  rw [rloopP, parseLoopP]
  split
  ·obtain ⟨h1, h2⟩ := rstmt_eq (L := L) f s (by omega)
   by_cases he : (stmtP L f s).err = none
   ·rw [h2 he]
    exact ih _
   ·have he' : (rstmtP L f s).err ≠ none := by rw [h1]; exact he
    rw [rloop_err n f he', loop_err n f he]
    exact ⟨h1, fun h => absurd h he⟩
  ·exact ⟨rfl, fun _ => rfl⟩
end
theorem appS0_step {X : Nat → Prop} {w : World} {ops : Array Oper} {o : Oper} {a : Act} {K : Act → World → Prop} {Q : Exit → Act → World → Prop} {E : Prop} (hgd : o.guard = none) (s x : Operand)
  (ho : o.op = .call { callee := .builtin .append, args := #[s, x], argTypes := #[23, 23] }) (B gb : Nat)
  (hs : a.eval s = .slice (some ⟨gb, 0, none⟩) 0 0) (A2 : Option Addr) (c n : Nat) (es : List Sm) (hn : es.length = n) (hx : a.eval x = .slice A2 n c) (hown : OwnSX X w 0 A2 c es)
  (hgb : w.heap[gb]? = some (.cells #[] 93 (0, 0))) (hB : B ≤ gb) (hBw : B ≤ w.heap.size) (hbytes : n ≤ 1000000)
  (h : ∀ A' cap' w', OwnSX X w' 0 A' cap' es → Below w.heap.size w w' → (∀ k, blk A' = some k → B ≤ k) → K (a.put o.dst (.slice A' n cap')) w') :
  if Region.wanted o (yielded ops a.tmps) = true then Oper.wp Tryz.prog o a w K Q else E := by
 have hw : Region.wanted o (yielded ops a.tmps) = true := by simp [Region.wanted, hgd]
 rw [if_pos hw]
 subst hn
 obtain ⟨i0, hi0, hz0, hz1, hz2⟩ := info_parts sm_info
 obtain ⟨ms, h1, h2, h3⟩ := hown
 obtain ⟨A', cap', w', hrun, h5, h6⟩ := run_app0N (P := Tryz.prog) w 23 o.type 93 i0 _ 6 72 Tryz.underlying23 hi0 hz0 hz1 hz2 rfl (by omega) B gb hgb hB hBw A2 es.length c 0 (ms.flatMap smCells) h2 (by simp only [maxLen]; omega) (by omega)
 unfold Oper.wp execOp
 simp only [ho, resolve, invoke, builtin, Sem.run_bind, Sem.run_pure, Result.andThen_ok, List.map_toArray, List.map_cons, List.map_nil, hs, hx, hrun]
 refine h _ _ _ ⟨ms, h1, ?_, fun m hm => (h3 m hm).kt (KT.below (base := 0) h6)⟩ h6 (fun k hk => ?_)
 ·refine ⟨h5.1, ?_⟩
  rcases h5.2 with hv | ⟨g, cap'', cur, hv, hb1, r⟩
  ·exact .inl hv
  ·exact .inr ⟨g, cap'', cur, hv, Nat.zero_le _, r⟩
 ·rcases row_form h5 with rfl | ⟨g, cur, rfl, hb, _⟩
  ·simp [blk] at hk
  ·have e' : g = k := by simpa [blk] using hk
   omega
theorem cells6 {w : World} {g : Nat} {a b c d e f : Value} {T : TypeId} (hz : w.heap[g]? = some (.cells #[a, b, c, d, e, f] T (0, 0))) :
  w.cell? ⟨g, 0, none⟩ = some a ∧ w.cell? ⟨g, 1, none⟩ = some b ∧ w.cell? ⟨g, 2, none⟩ = some c ∧ w.cell? ⟨g, 3, none⟩ = some d ∧ w.cell? ⟨g, 4, none⟩ = some e ∧ w.cell? ⟨g, 5, none⟩ = some f :=
 ⟨cell_of_row _ _ 0 _ _ _ hz, cell_of_row _ _ 1 _ _ _ hz, cell_of_row _ _ 2 _ _ _ hz, cell_of_row _ _ 3 _ _ _ hz, cell_of_row _ _ 4 _ _ _ hz, cell_of_row _ _ 5 _ _ _ hz⟩
def RSt (X : Nat → Prop) (TA : Option Addr) (tc : Nat) (L : List Tok) (n : Nat) (w : World) (r : PS) (e : Ending) (w' : World) : Prop :=
 ∃ (v : Value) (SA : Option Addr) (ns sc : Nat), e = .returned v ∧ RO X TA tc L n SA ns sc r w' v ∧ Below w.heap.size w w'
section
variable {X Y : Nat → Prop} {TA SA : Option Addr} {tc n ns sc : Nat} {L : List Tok} {s s' : PS} {w0 w w1 w' wS : World} {i ne ec d c p : Nat} {EA : Option Addr} {b : Array Value} {Q : List (Nat × Obj)}
theorem FR.outc {g : Nat} {o0 o1 o2 o3 o4 o5 : Value} (h : FR X TA L n SA ns sc tc w0 w s i EA ne ec d c p b ((g, .cells #[o0, o1, o2, o3, o4, o5] 93) :: Q)) :
  (w.cell? ⟨g, 0, none⟩ = some o0 ∧ w.cell? ⟨g, 1, none⟩ = some o1 ∧ w.cell? ⟨g, 2, none⟩ = some o2 ∧ w.cell? ⟨g, 3, none⟩ = some o3 ∧ w.cell? ⟨g, 4, none⟩ = some o4 ∧ w.cell? ⟨g, 5, none⟩ = some o5) ∧
  (w.frozen? ⟨g, 0, none⟩ = false ∧ w.frozen? ⟨g, 1, none⟩ = false ∧ w.frozen? ⟨g, 2, none⟩ = false ∧ w.frozen? ⟨g, 3, none⟩ = false ∧ w.frozen? ⟨g, 4, none⟩ = false) ∧ w0.heap.size + 1 < g ∧ g < w.heap.size := by
 obtain ⟨h1, h2⟩ := h.ex _ (List.mem_cons_self ..)
 exact ⟨cells6 h2, ⟨pfree_row h2 0, pfree_row h2 1, pfree_row h2 2, pfree_row h2 3, pfree_row h2 4⟩, h1, (Array.getElem?_eq_some_iff.1 h2).1⟩
theorem FR.setOut {g : Nat} {cs cs' : Array Value} (h : FR X TA L n SA ns sc tc w0 w s i EA ne ec d c p b ((g, .cells cs 93) :: [])) (hSA : ∀ k, blk SA = some k → k ≠ g) (j : Nat) (v : Value) (hc : cs.setIfInBounds j v = cs') :
  FR X TA L n SA ns sc tc w0 (w.setCell ⟨g, j, none⟩ v) s i EA ne ec d c p b ((g, .cells cs' 93) :: []) := by
 obtain ⟨h1, h2⟩ := h.ex _ (List.mem_cons_self ..)
 subst hc
 have hB : Below w0.heap.size w0 (w.setCell ⟨g, j, none⟩ v) := h.bx.hb.setCell (p := ⟨g, j, none⟩) (by show w0.heap.size ≤ g; omega) v
 have hs : (w.setCell ⟨g, j, none⟩ v).heap.size = w.heap.size := by simp [World.setCell]
 have hk : ∀ (k : Nat) (cs : Array Value) (T : TypeId), w.heap[k]? = some (.cells cs T (0, 0)) → T ≠ 93 → (w.setCell ⟨g, j, none⟩ v).heap[k]? = some (.cells cs T (0, 0)) := fun k cs T hk hT => by
  rw [setCell_ne _ _ _ (by show k ≠ g; rintro rfl; rw [h2] at hk; injection hk with hk; injection hk with _ hk; exact hT hk.symm)]
  exact hk
 refine ⟨⟨hk _ _ _ h.bx.k0 (by decide), hk _ _ _ h.bx.k1 (by decide), hB, by rw [hs]; exact h.bx.lt⟩, ⟨⟨?_, ?_, (h.t0.below hB).more hB.size, h.st.rr.err, h.st.rr.len, h.st.rr.ii, h.st.rr.dd, h.st.rr.el, h.st.rr.sl, by rw [hs]; exact h.st.rr.xx⟩, h.st.en, h.st.ens, h.st.ei, h.st.ene, h.st.ed, h.st.ecc, h.st.ep⟩, h.t0, fun q hq1 => ?_⟩
 ·exact h.st.rr.ownS.keep' (fun g cur _ hg => hk _ _ _ hg (by decide)) (fun g' cur hA hg => by
   rw [setCell_ne _ _ _ (by show g' ≠ g; exact hSA g' (by rw [hA]; rfl))]
   exact hg)
 ·exact h.st.rr.ownE.keep' (fun g cur _ hg => hk _ _ _ hg (by decide)) (fun g cur _ hg => hk _ _ _ hg (by decide))
 ·rcases List.mem_cons.1 hq1 with rfl | hq1
  ·exact ⟨h1, heap_setCell_same _ _ _ _ _ _ h2⟩
  ·cases hq1
theorem ST.sa (h : ST X TA L s w n SA ns sc i EA ne ec d c p) : ∀ k, blk SA = some k → k < w.heap.size := fun k hk => by
 obtain ⟨ms, h1, h2, h3⟩ := h.rr.ownS
 rcases row_form h2 with rfl | ⟨g, cur, rfl, _, hc⟩
 ·simp [blk] at hk
 ·have e' : g = k := by simpa [blk] using hk
  subst e'
  exact (Array.getElem?_eq_some_iff.1 hc).1
theorem FR.putS {Y : Nat → Prop} {w6 : World} {x : Sm} {A2 : Option Addr} {k2 n2 : Nat} {b0 b1 b2 b3 b4 b5 b6 : Value} (h : FR Y TA L n SA ns sc tc w0 w s i EA ne ec d c p #[b0, b1, b2, b3, b4, b5, b6] Q) (hY : ∀ k, X k → Y k) (hb : Below w.heap.size w w6)
  (ho : OwnSX X w6 0 A2 k2 (s.ss ++ [x])) (hl : s.ss.length < 64) (hn2 : n2 = ns + 1) (hS : wS = ((((((((w6.setCell ⟨w0.heap.size, 2, none⟩ (.slice A2 n2 k2))).setCell ⟨w0.heap.size + 1, 0, none⟩ (.slice TA n tc)).setCell ⟨w0.heap.size + 1, 1, none⟩ (.int .i64 ((i : Nat) : Int))).setCell ⟨w0.heap.size + 1, 2, none⟩ (.slice A2 n2 k2)).setCell ⟨w0.heap.size + 1, 3, none⟩ (.slice EA ne ec)).setCell ⟨w0.heap.size + 1, 4, none⟩ (.int .i64 ((d : Nat) : Int))).setCell ⟨w0.heap.size + 1, 5, none⟩ (.int .i64 ((c : Nat) : Int))).setCell ⟨w0.heap.size + 1, 6, none⟩ (.int .i64 ((p : Nat) : Int))) :
  wS.heap[w0.heap.size + 1]? = some (.cells #[.slice TA n tc, .int .i64 ((i : Nat) : Int), .slice A2 n2 k2, .slice EA ne ec, .int .i64 ((d : Nat) : Int), .int .i64 ((c : Nat) : Int), .int .i64 ((p : Nat) : Int)] 165 (0, 0)) ∧
   ST X TA L (putS s x) wS n A2 n2 k2 i EA ne ec d c p ∧ Below w0.heap.size w0 wS := by
 have h6 := (h.call hb).wide hY
 have B1 : Bx w0 _ _ _ := h6.bx.set0 2 (.slice A2 n2 k2)
 have hz := B1.k1
 obtain ⟨s1, s2, s3, s4⟩ := st7 hz hS
 have hB := Bx.all1 B1 hS
 have hss : (w6.setCell ⟨w0.heap.size, 2, none⟩ (.slice A2 n2 k2)).heap.size = w6.heap.size := by simp [World.setCell]
 have hk : ∀ (k : Nat) (cs : Array Value) (T : TypeId), w6.heap[k]? = some (.cells cs T (0, 0)) → T ≠ 165 → wS.heap[k]? = some (.cells cs T (0, 0)) := fun k cs T hk hT =>
  only_ne B1.k1 s2 k cs T (only_ne h6.bx.k0 (fun j hj => setCell_ne _ _ _ hj) k cs T hk hT) hT
 have hr : RR X TA L (Go.Proofs.YtghlnncfigkkaaaGreatDoor.putS s x) w6 A2 k2 EA ec := ⟨ho, h6.st.rr.ownE, h6.st.rr.toks, h6.st.rr.err, h6.st.rr.len, h6.st.rr.ii, h6.st.rr.dd, h6.st.rr.el, by show (s.ss ++ [x]).length ≤ 64; rw [List.length_append]; show s.ss.length + 1 ≤ 64; omega, h6.st.rr.xx⟩
 exact ⟨s1, ⟨hr.stores h.t0 hB.hb (by rw [s3, hss]; exact Nat.le_refl _) hk, h.st.en, by rw [hn2, h.st.ens]; show s.ss.length + 1 = (s.ss ++ [x]).length; rw [List.length_append]; rfl, h.st.ei, h.st.ene, h.st.ed, h.st.ecc, h.st.ep⟩, hB.hb⟩
end
section
variable {X Y : Nat → Prop} {TA SA : Option Addr} {tc n ns sc : Nat} {L : List Tok} {s s' : PS} {w0 w w1 w' wS : World} {i ne ec d c p : Nat} {EA : Option Addr} {b : Array Value} {Q : List (Nat × Obj)}
theorem FR.setOutO {g : Nat} {cs : Array Value} {A : Option Addr} {cap B : Nat} {xs : List Value} (h : FR X TA L n SA ns sc tc w0 w s i EA ne ec d c p b ((g, .cells cs 93) :: [])) (hO : Own w B 3 A cap xs) (j : Nat) (v : Value) : Own (w.setCell ⟨g, j, none⟩ v) B 3 A cap xs :=
 own_keep hO fun k cur _ hk => by
  obtain ⟨h1, h2⟩ := h.ex _ (List.mem_cons_self ..)
  rw [setCell_ne _ _ _ (by show k ≠ g; rintro rfl; rw [h2] at hk; injection hk with hk; injection hk with _ hk; exact absurd hk (by decide))]
  exact hk
def KSh (L : List Tok) (R : PS × List Nat) (m : Nat) (s : PS) (l : List Nat) : Prop :=
 l.length = m ∧ m ≤ s.i + 1 ∧ (s.err = none → m ≤ s.i) ∧ ∃ f, R = rshapeP L f s l ∧ (s.err = none → L.length - s.i + 2 ≤ f) ∧ 1 ≤ f
def sqP (L : List Tok) (s : PS) (l : List Nat) : PS := if l.length = 0 then s else wantP L s tComma
theorem number_i (s : PS) : ((numberP L s).1.err = none → s.i < L.length ∧ (numberP L s).1.i = s.i + 1) ∧ (numberP L s).1.i ≤ s.i + 1 ∧ s.i ≤ (numberP L s).1.i := by
 refine ⟨fun h => ?_, ?_, (G.number (L := L) s).hi⟩
 ·unfold numberP at h ⊢
  split
  ·rename_i hh
   rw [if_pos hh] at h
   exact absurd h (failP_ne s 130)
  ·rename_i hh
   exact ⟨now_lt (by simp only [Bool.or_eq_true, not_or, bne_iff_ne, ne_eq, Decidable.not_not] at hh; omega), rfl⟩
 ·unfold numberP
  split
  ·have : (failP L s 130).i = s.i := by unfold failP; split <;> rfl
   rw [this]
   omega
  ·exact Nat.le_refl _
theorem sq_i (s : PS) (l : List Nat) : s.i ≤ (sqP L s l).i := by
 unfold sqP
 split
 ·exact Nat.le_refl _
 ·exact (G.want (L := L) s tComma).hi
theorem KSh.step {R : PS × List Nat} {m : Nat} {l : List Nat} (h : KSh L R m s l) (hq : isP L s tKet = false) (he : s.err = none) (hi : s.i ≤ L.length) :
  KSh L R (m + 1) (numberP L (sqP L s l)).1 (l ++ [(numberP L (sqP L s l)).2]) := by
 obtain ⟨h1, h2, h3, f, h4, h5, h6⟩ := h
 have h5 := h5 he
 have h3 := h3 he
 obtain ⟨f, rfl⟩ : ∃ g, f = g + 1 := ⟨f - 1, by omega⟩
 have a1 := sq_i (L := L) s l
 obtain ⟨b1, b2, b3⟩ := number_i (L := L) (sqP L s l)
 refine ⟨by simp [h1], by omega, fun hn => by have := b1 hn; omega, f, ?_, fun hn => by have := b1 hn; omega, by omega⟩
 rw [h4, rshapeP]
 simp only [hq, he, Bool.not_false, Bool.and_self, Option.isNone_none, if_true]
 rfl
theorem KSh.stop {R : PS × List Nat} {m : Nat} {l : List Nat} (h : KSh L R m s l) (hq : isP L s tKet = true ∨ s.err ≠ none) : R = (s, l) := by
 obtain ⟨h1, h2, h3, f, h4, h5, h6⟩ := h
 obtain ⟨f, rfl⟩ : ∃ g, f = g + 1 := ⟨f - 1, by omega⟩
 rw [h4, rshapeP]
 rcases hq with hq | hq
 ·simp [hq]
 ·simp [isNone_no hq]
def msr (L : List Tok) (s : PS) : Nat := (L.length - s.i) + (if s.err = none then 1 else 0)
theorem msr_step (s : PS) (l : List Nat) (he : s.err = none) (hi : s.i ≤ L.length) : msr L (numberP L (sqP L s l)).1 < msr L s := by
 have a1 := sq_i (L := L) s l
 obtain ⟨b1, b2, b3⟩ := number_i (L := L) (sqP L s l)
 unfold msr
 rw [if_pos he]
 split
 ·rename_i hn
  have := b1 hn
  omega
 ·omega
def msrM (n g : Nat) (w : World) : Nat := (n - curI g w) + (match w.cell? ⟨g, 5, none⟩ with | some v => if (intOf v) = 0 then 1 else 0 | none => 0)
theorem FR.msr (h : FR X TA L n SA ns sc tc w0 w s i EA ne ec d c p b Q) : msrM L.length w0.heap.size w = msr L s := by
 have hc : w.cell? ⟨w0.heap.size, 5, none⟩ = some (.int .i64 ((c : Nat) : Int)) := cell_of_row _ _ 5 _ _ _ h.bx.k0
 have he := h.st.ecc
 unfold msrM Go.Proofs.YtghlnncfigkkaaaGreatDoor.msr
 rw [h.cur, hc]
 by_cases h1 : s.err = none
 ·rw [if_pos h1]
  have : c = 0 := by rw [he, eC_none h1]
  subst this
  rfl
 ·rw [if_neg h1]
  have := h.st.rr.eC_some h1
  have h2 : ¬ (intOf (.int .i64 ((c : Nat) : Int))) = 0 := by simp only [intOf]; omega
  simp only [if_neg h2]
def RI (X : Nat → Prop) (TA : Option Addr) (tc : Nat) (L : List Tok) (n : Nat) (SA : Option Addr) (ns sc : Nat) (w : World) (g B : Nat) (R : PS × List Nat) (vn : Nat) (vm : ByteArray) (ps : Nat) (wr : World) : Prop :=
 ∃ (m : Nat) (s' : PS) (l : List Nat) (A : Option Addr) (cap i : Nat) (EA : Option Addr) (ne ec d c p : Nat), KSh L R m s' l ∧ FR (XA X A) TA L n SA ns sc tc w wr s' i EA ne ec d c p #[(.slice none 0 0), (.int .i64 0), (.slice none 0 0), (.slice none 0 0), (.int .i64 0), (.int .i64 0), (.int .i64 0)] ((g, .cells #[.int .i64 1, .int .i64 ((vn : Nat) : Int), .string vm, .slice A m cap, .int .i64 0, .int .i64 ((ps : Nat) : Int)] 93) :: []) ∧ Own wr B 3 A cap (l.map I64) ∧ B ≤ wr.heap.size
end
end Go.Proofs.YtghlnncfigkkaaaGreatDoor
