/-
  Statements in their row; the parser's stmt.
-/
import Derived.Test.YtcefclglmhpdeaaGreatDoorParI
namespace Go.Proofs.YtcefclglmhpdeaaGreatDoor
set_option linter.unusedVariables false
set_option linter.unusedSimpArgs false
open Go.RowKit
attribute [local go_sem ↓] tok_field3 tok_field0
theorem sm_info : (Tryz.prog.info? 38).map (fun i => (i.zero, i.size, i.bytes)) = some (some (.agg #[.int .i64 0, .int .i64 0, .string ⟨#[]⟩, .slice none 0 0, .int .i64 0, .int .i64 0]), 6, 72) := by kernel_rfl
theorem args_one' {w : World} {v : Value} {l : List Nat} (h : ArgsV w v l) : v.oneCell' = true := args_one h
/-- append of one statement, as a step of a region that draws its order. -/
theorem appS_step {w : World} {ops : Array Oper} {o : Oper} {a : Act} {K : Act → World → Prop} {Q : Exit → Act → World → Prop} {E : Prop} (hgd : o.guard = none) (s x : Operand)
    (ho : o.op = .call { callee := .builtin .append, args := #[s, x], argTypes := #[23, 23] }) (base : Nat)
    (A : Option Addr) (cap : Nat) (es : List Sm) (n : Nat) (hn : es.length = n) (hs : a.eval s = .slice A n cap) (hown : OwnS w base A cap es)
    (g2 : Nat) (hx : a.eval x = .slice (some ⟨g2, 0, none⟩) 1 1) (m : Sm × Value) (hb : w.heap[g2]? = some (.cells (smCells m).toArray 38 (0, 0))) (hargs : ArgsV w m.2 m.1.shape)
    (hbytes : n + 1 ≤ 1000000) (hbase : base ≤ w.heap.size)
    (h : ∀ A' cap' w', OwnS w' base A' cap' (es ++ [m.1]) → w.grownBy w' (blk A) → K (a.put o.dst (.slice A' (n + 1) cap')) w') :
    if Region.wanted o (yielded ops a.tmps) = true then Oper.wp Tryz.prog o a w K Q else E := by
  have hw : Region.wanted o (yielded ops a.tmps) = true := by simp [Region.wanted, hgd]
  rw [if_pos hw]
  subst hn
  obtain ⟨ms, hm1, hm2, hm3⟩ := hown
  obtain ⟨i0, hi0, hz0, hz1, hz2⟩ := info_parts sm_info
  refine wp_append_own w s x 23 ho base 38 i0 _ 6 72 Tryz.underlying23 hi0 hz0 hz1 hz2 rfl (by decide) _ es.length (ms.flatMap smCells) hs hm2 ⟨g2, 0, none⟩ 1 1 (smCells m) hx rfl ?_ ?_ (by simp only [maxLen]; omega) (by omega) hbase ?_
  · intro j u hu
    have e' : (⟨g2, 0, none⟩ : Addr).add j = ⟨g2, j, none⟩ := by unfold Addr.add; split <;> simp_all
    rw [e', cell_of_row w g2 j _ _ (0, 0) hb]
    simpa using hu
  · intro u hu
    unfold smCells at hu
    simp at hu
    rcases hu with rfl | rfl | rfl | rfl | rfl | rfl
    · rfl
    · rfl
    · rfl
    · exact args_one hargs
    · rfl
    · rfl
  · intro v' w' h1 h2 _
    rcases h1.2 with ⟨_, h0⟩ | ⟨g, cap', cur, rfl, r⟩
    · omega
    · refine h (some ⟨g, 0, none⟩) cap' w' ⟨ms ++ [m], by rw [List.map_append, hm1]; rfl, ?_, ?_⟩ (by rw [blk_own] at h2; exact h2)
      · rw [List.flatMap_append, List.length_append]
        simp only [List.flatMap_cons, List.flatMap_nil, List.append_nil]
        exact h1
      · intro y hy
        rcases List.mem_append.1 hy with hy | hy
        · exact hm3 y hy
        · rw [List.mem_singleton.1 hy]
          exact hargs
section
variable {base P tc : Nat} {TA : Option Addr} {L : List Tok} {s : PS} {SA EA : Option Addr} {sc ec : Nat} {ev : Value}
theorem pr_ne {w : World} (h : PR base P TA tc L s w SA sc EA ec ev) {w' : World} (hg : w.grownBy w' (blk SA)) : ∀ (k : Nat) (cs : Array Value) (T : TypeId) (fr : Nat × Nat), w.heap[k]? = some (.cells cs T fr) → T ≠ 38 → w'.heap[k]? = some (.cells cs T fr) := fun k cs T fr hk hT => by
  obtain ⟨ms, _, h2, _⟩ := h.ownS
  rw [hg.block k (Array.getElem?_eq_some_iff.1 hk).1 (fun e => by
    rcases row_form h2 with rfl | ⟨g, cur, rfl, _, hc⟩
    · simp [blk] at e
    · have e' : k = g := by simpa [blk] using e
      subst e'
      rw [hc] at hk
      injection hk with hk
      injection hk with _ hk _
      exact hT hk.symm)]
  exact hk
/-- Behind the append of a statement and the store of its slice. -/
theorem pr_putS {w w' : World} (h : PR base P TA tc L s w SA sc EA ec ev) {x : Sm} {A' : Option Addr} {cap' : Nat} (ho : OwnS w' base A' cap' (s.ss ++ [x])) (hg : w.grownBy w' (blk SA)) (hs : s.ss.length ≤ 64) :
    PR base P TA tc L (putS s x) (w'.setCell ⟨P, 2, none⟩ (.slice A' (s.ss.length + 1 : Nat) cap')) A' cap' EA ec ev ∧ Below base w (w'.setCell ⟨P, 2, none⟩ (.slice A' (s.ss.length + 1 : Nat) cap')) := by
  have hne := pr_ne h hg
  have hblk := hne P _ _ _ h.blk (by decide)
  have hrow : (w'.setCell ⟨P, 2, none⟩ (.slice A' (s.ss.length + 1 : Nat) cap')).heap[P]? = _ := heap_setCell_same _ _ _ _ _ _ hblk
  rw [prow_set2] at hrow
  have hother : ∀ (k : Nat) (cs : Array Value) (T : TypeId) (fr : Nat × Nat), w'.heap[k]? = some (.cells cs T fr) → T ≠ 77 → (w'.setCell ⟨P, 2, none⟩ (.slice A' (s.ss.length + 1 : Nat) cap')).heap[k]? = some (.cells cs T fr) := fun k cs T fr hk hT => by
    rw [setCell_ne _ _ _ (fun e' => by
      have e'' : k = P := e'
      subst e''
      rw [hblk] at hk
      injection hk with hk
      injection hk with _ hk _
      exact hT hk.symm)]
    exact hk
  have hbel : Below base w (w'.setCell ⟨P, 2, none⟩ (.slice A' (s.ss.length + 1 : Nat) cap')) := by
    refine ((Below.refl base w).grown hg h.base_le (fun k hk => ?_)).setCell (p := ⟨P, 2, none⟩) h.hb _
    obtain ⟨ms, _, h2, _⟩ := h.ownS
    rcases row_form h2 with rfl | ⟨g, cur, rfl, hbg, hc⟩
    · simp [blk] at hk
    · have e' : g = k := by simpa [blk] using hk
      omega
  have herr : ∀ {l : List (ByteArray × Int)} {v : Value} {code : Int}, IsErr w v l code → IsErr (w'.setCell ⟨P, 2, none⟩ (.slice A' (s.ss.length + 1 : Nat) cap')) v l code := by
    intro l
    induction l with
    | nil => intro v code h; exact h
    | cons p r ih =>
      intro v code h
      obtain ⟨a, inner, rfl, hc, hi⟩ := h
      exact ⟨a, inner, rfl, hother a _ _ _ (hne a _ _ _ hc (by decide)) (by decide), ih hi⟩
  refine ⟨⟨h.hb, ?_, ?_, ?_, ?_, h.toks.below hbel, ?_, h.etb, h.len, h.ii, h.dd, h.el, ?_⟩, hbel⟩
  · show _ = some (Obj.cells (PRow TA L.length tc s.i (.slice A' (s.ss ++ [x]).length cap') (.slice EA s.es.length ec) s.deep ev) 77 (0, 0))
    rw [show (s.ss ++ [x]).length = s.ss.length + 1 from by rw [List.length_append]; rfl]
    exact hrow
  · obtain ⟨ms, h1, h2, h3⟩ := ho
    exact ⟨ms, h1, row_keep h2 (fun g cur _ hc => hother g _ _ _ hc (by decide)), h3⟩
  · obtain ⟨ms, h1, h2, h3⟩ := h.ownE
    exact ⟨ms, h1, row_keep h2 (fun g cur _ hc => hother g _ _ _ (hne g _ _ _ hc (by decide)) (by decide)), h3⟩
  · show ErrV _ ev s.err
    have he := h.err
    cases hc : s.err with
    | none => rw [hc] at he; exact he
    | some y => rw [hc] at he; exact herr he
  · have he := h.ety
    unfold ETyped at he ⊢
    rw [← he]
    exact World.cell?_of_block (hbel.block _ h.etb)
  · show (s.ss ++ [x]).length ≤ 65
    rw [List.length_append]
    simp
    omega
/-- The statement in the making: a block of its own, made at w0. -/
def SM (base P : Nat) (TA : Option Addr) (tc : Nat) (L : List Tok) (w0 : World) (g : Nat) (s : PS) (k p : Nat) (nm : ByteArray) (v : Value) (e q : Nat) (w : World) : Prop :=
  PM base P TA tc L s w ∧ KT base w0 w ∧ w.heap[g]? = some (.cells #[.int .i64 k, .int .i64 p, .string nm, v, .int .i64 e, .int .i64 q] 38 (0, 0)) ∧ (∃ A c n, v = .slice A n c)
variable {w0 w w' : World} {g k p e q : Nat} {nm : ByteArray} {v : Value}
theorem SM.call (h : SM base P TA tc L w0 g s k p nm v e q w) {s' : PS} (hp : PM base P TA tc L s' w') (hk : KT base w w') : SM base P TA tc L w0 g s' k p nm v e q w' :=
  ⟨hp, h.2.1.trans hk, hk.block g _ h.2.2.1 (.inr ⟨by decide, by decide⟩), h.2.2.2⟩
/-- A store into the block in the making. -/
theorem SM.set (h : SM base P TA tc L w0 g s k p nm v e q w) (h0 : ∃ s0, PM base P TA tc L s0 w0) (hg : w0.heap.size ≤ g) (j : Nat) (x : Value) :
    PM base P TA tc L s (w.setCell ⟨g, j, none⟩ x) ∧ KT base w0 (w.setCell ⟨g, j, none⟩ x) ∧ (w.setCell ⟨g, j, none⟩ x).heap[g]? = some (.cells ((#[.int .i64 k, .int .i64 p, .string nm, v, .int .i64 e, .int .i64 q] : Array Value).setIfInBounds j x) 38 (0, 0)) := by
  obtain ⟨hp, hk, hr, _⟩ := h
  obtain ⟨s0, SA0, sc0, EA0, ec0, ev0, h0⟩ := h0
  obtain ⟨SA, sc, EA, ec, ev, h⟩ := hp
  have hbg : base ≤ g := Nat.le_trans h0.base_le hg
  have hne : ∀ (i : Nat) (cs : Array Value) (T : TypeId) (fr : Nat × Nat), w.heap[i]? = some (.cells cs T fr) → i ≠ g → (w.setCell ⟨g, j, none⟩ x).heap[i]? = some (.cells cs T fr) := fun i cs T fr hi hh => by
    rw [setCell_ne _ _ _ hh]; exact hi
  have hty : ∀ (i : Nat) (cs : Array Value) (T : TypeId) (fr : Nat × Nat), w.heap[i]? = some (.cells cs T fr) → T ≠ 38 → (w.setCell ⟨g, j, none⟩ x).heap[i]? = some (.cells cs T fr) := fun i cs T fr hi hT => hne i cs T fr hi (fun e' => by
    subst e'
    rw [hr] at hi
    injection hi with hi
    injection hi with _ hi _
    exact hT hi.symm)
  -- the row of statements is older than the block
  have hSA : ∀ g' cur, SA = some ⟨g', 0, none⟩ → w.heap[g']? = some (.cells cur 38 (0, 0)) → g' ≠ g := by
    intro g' cur hA hc
    obtain ⟨c', hc1, hc2⟩ := hk.stm P _ h0.blk
    rw [h.blk] at hc1
    injection hc1 with hc1
    injection hc1 with hc1 _ _
    subst hc1
    have hc3 : (some (Value.slice SA s.ss.length sc)) = some (Value.slice SA0 s0.ss.length sc0) := hc2
    injection hc3 with hc3
    injection hc3 with e1 _ _
    obtain ⟨ms, _, h2, _⟩ := h0.ownS
    rcases row_form h2 with e2 | ⟨g0, cur0, e2, _, hc0⟩
    · rw [e1, e2] at hA; cases hA
    · rw [e1, e2] at hA
      injection hA with hA
      injection hA with hA _ _
      subst hA
      have := (Array.getElem?_eq_some_iff.1 hc0).1
      omega
  have hlow : ∀ i, i < base → (w.setCell ⟨g, j, none⟩ x).heap[i]? = w.heap[i]? := fun i hi => setCell_ne _ _ _ (by show i ≠ g; omega)
  have herr : ∀ {l : List (ByteArray × Int)} {v : Value} {code : Int}, IsErr w v l code → IsErr (w.setCell ⟨g, j, none⟩ x) v l code := by
    intro l
    induction l with
    | nil => intro v code h; exact h
    | cons p r ih =>
      intro v code h
      obtain ⟨a, inner, rfl, hc, hi⟩ := h
      exact ⟨a, inner, rfl, hty a _ _ _ hc (by decide), ih hi⟩
  refine ⟨⟨SA, sc, EA, ec, ev, h.hb, hty P _ _ _ h.blk (by decide), ?_, ?_, ?_, ?_, ?_, h.etb, h.len, h.ii, h.dd, h.el, h.sl⟩, ?_, heap_setCell_same _ _ _ _ _ _ hr⟩
  · obtain ⟨ms, h1, h2, h3⟩ := h.ownS
    exact ⟨ms, h1, row_keep h2 (fun g' cur hA hc => hne g' _ _ _ hc (hSA g' cur hA hc)), h3⟩
  · obtain ⟨ms, h1, h2, h3⟩ := h.ownE
    exact ⟨ms, h1, row_keep h2 (fun g' cur _ hc => hty g' _ _ _ hc (by decide)), h3⟩
  · have he := h.err
    cases hc : s.err with
    | none => rw [hc] at he; exact he
    | some y => rw [hc] at he; exact herr he
  · exact h.toks.keep fun pp hp => World.cell?_of_block (hlow _ hp)
  · have he := h.ety
    unfold ETyped at he ⊢
    rw [← he]
    exact World.cell?_of_block (hlow _ h.etb)
  · have hw0 : ∀ i o, w0.heap[i]? = some o → i ≠ g := fun i o hi => by have := (Array.getElem?_eq_some_iff.1 hi).1; omega
    exact ⟨hk.os, hk.tape, hk.output, by have := hk.size; simpa [World.setCell] using this, fun i o hi hp => by rw [setCell_ne _ _ _ (hw0 i o hi)]; exact hk.block i o hi hp, fun i cs hi => by
      obtain ⟨c1, h1, e1⟩ := hk.stm i cs hi
      exact ⟨c1, by rw [setCell_ne _ _ _ (hw0 i _ hi)]; exact h1, e1⟩⟩
theorem SM.free (h : SM base P TA tc L w0 g s k p nm v e q w) (j : Nat) : w.frozen? ⟨g, j, none⟩ = false := pfree_row h.2.2.1 j
theorem SM.c0 (h : SM base P TA tc L w0 g s k p nm v e q w) : w.cell? ⟨g, 0, none⟩ = some (.int .i64 k) := cell_of_row _ _ 0 _ _ _ h.2.2.1
theorem SM.c1 (h : SM base P TA tc L w0 g s k p nm v e q w) : w.cell? ⟨g, 1, none⟩ = some (.int .i64 p) := cell_of_row _ _ 1 _ _ _ h.2.2.1
theorem SM.c2 (h : SM base P TA tc L w0 g s k p nm v e q w) : w.cell? ⟨g, 2, none⟩ = some (.string nm) := cell_of_row _ _ 2 _ _ _ h.2.2.1
theorem SM.c3 (h : SM base P TA tc L w0 g s k p nm v e q w) : w.cell? ⟨g, 3, none⟩ = some v := cell_of_row _ _ 3 _ _ _ h.2.2.1
theorem SM.c4 (h : SM base P TA tc L w0 g s k p nm v e q w) : w.cell? ⟨g, 4, none⟩ = some (.int .i64 e) := cell_of_row _ _ 4 _ _ _ h.2.2.1
theorem SM.c5 (h : SM base P TA tc L w0 g s k p nm v e q w) : w.cell? ⟨g, 5, none⟩ = some (.int .i64 q) := cell_of_row _ _ 5 _ _ _ h.2.2.1
end
end Go.Proofs.YtcefclglmhpdeaaGreatDoor
