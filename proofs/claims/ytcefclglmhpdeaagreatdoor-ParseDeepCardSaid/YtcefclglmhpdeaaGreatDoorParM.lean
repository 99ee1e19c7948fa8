/-
  The parser's state in memory: what stands where, and what the parser's own functions leave of everything else.
-/
import Derived.Test.YtcefclglmhpdeaaGreatDoorParL
import Derived.Test.YtcefclglmhpdeaaGreatDoorFault
namespace Go.Proofs.YtcefclglmhpdeaaGreatDoor
set_option linter.unusedVariables false
set_option linter.unusedSimpArgs false
open Go.RowKit
/-- A block that the parser's functions (but stmt) never write: of another kind than the parser's struct and the row of expressions. -/
def PlainO : Obj → Prop
  | .cells _ t _ => t ≠ 77 ∧ t ≠ 43
  | _ => True
/-- What the parser's functions leave as it was. -/
structure KT (base : Nat) (w w' : World) : Prop where
  os : w'.os = w.os
  tape : w'.tape = w.tape
  output : w'.output = w.output
  size : w.heap.size ≤ w'.heap.size
  block : ∀ k o, w.heap[k]? = some o → k < base ∨ PlainO o → w'.heap[k]? = some o
  stm : ∀ (k : Nat) (cs : Array Value), w.heap[k]? = some (.cells cs 77 (0, 0)) → ∃ cs' : Array Value, w'.heap[k]? = some (.cells cs' 77 (0, 0)) ∧ cs'[2]? = cs[2]?
theorem KT.refl (base : Nat) (w : World) : KT base w w := ⟨rfl, rfl, rfl, Nat.le_refl _, fun _ _ h _ => h, fun k cs h => ⟨cs, h, rfl⟩⟩
theorem KT.trans {base : Nat} {a b c : World} (h : KT base a b) (k : KT base b c) : KT base a c :=
  ⟨k.os.trans h.os, k.tape.trans h.tape, k.output.trans h.output, Nat.le_trans h.size k.size, fun i o hi hp => k.block i o (h.block i o hi hp) hp, fun i cs hi => by
    obtain ⟨c1, h1, e1⟩ := h.stm i cs hi
    obtain ⟨c2, h2, e2⟩ := k.stm i c1 h1
    exact ⟨c2, h2, e2.trans e1⟩⟩
theorem KT.below {base : Nat} {w w' : World} (h : Below w.heap.size w w') : KT base w w' :=
  ⟨h.os, h.tape, h.output, h.size, fun k o hk _ => (h.block k (Array.getElem?_eq_some_iff.1 hk).1).trans hk, fun k cs hk => ⟨cs, (h.block k (Array.getElem?_eq_some_iff.1 hk).1).trans hk, rfl⟩⟩
theorem KT.toBelow {base : Nat} {w w' : World} (h : KT base w w') (hb : base ≤ w.heap.size) : Below base w w' :=
  ⟨h.os, h.tape, h.output, h.size, fun k hk => by
    have e : w.heap[k]? = some (w.heap[k]'(by omega)) := Array.getElem?_eq_getElem _
    rw [e]
    exact h.block k _ e (.inl hk)⟩
theorem setCell_ne (w : World) (t : Addr) (v : Value) {k : Nat} (h : k ≠ t.block) : (w.setCell t v).heap[k]? = w.heap[k]? := Below.heap_setCell w t v k h
/-- A store into a block of one of the parser's kinds. -/
theorem KT.set {base : Nat} {w : World} {t : Addr} {cs : Array Value} {T : TypeId} {fr : Nat × Nat} (hp : w.heap[t.block]? = some (.cells cs T fr)) (hb : base ≤ t.block) (hT : T = 77) (v : Value) (hs : t.spot = none) (h2 : t.off ≠ 2) : KT base w (w.setCell t v) :=
  ⟨rfl, rfl, rfl, by simp [World.setCell], fun k o hk h => by
    by_cases e : k = t.block
    · subst e
      rw [hp] at hk
      injection hk with hk
      subst hk
      rcases h with h | h
      · omega
      · exact absurd hT h.1
    · rw [setCell_ne _ _ _ e]
      exact hk, fun k cs' hk => by
    by_cases e : k = t.block
    · subst e
      obtain ⟨b, o, sp⟩ := t
      obtain rfl : sp = none := hs
      exact ⟨cs'.setIfInBounds o v, heap_setCell_same _ _ _ _ _ _ hk, by rw [Array.getElem?_setIfInBounds]; exact if_neg h2⟩
    · exact ⟨cs', by rw [setCell_ne _ _ _ e]; exact hk, rfl⟩⟩
/-- Behind an append onto a row of one of the parser's kinds. -/
theorem KT.grown {base : Nat} {w w' : World} {A : Option Addr} {T : TypeId} (hg : w.grownBy w' (blk A)) (hT : T = 43) (hA : A = none ∨ ∃ g cur, A = some ⟨g, 0, none⟩ ∧ base ≤ g ∧ w.heap[g]? = some (.cells cur T (0, 0))) : KT base w w' :=
  ⟨hg.os, hg.tape, hg.output, hg.size, fun k o hk h => by
    have hlt := (Array.getElem?_eq_some_iff.1 hk).1
    rcases hA with rfl | ⟨g, cur, rfl, hb, hc⟩
    · rw [hg.block k hlt (by simp [blk])]; exact hk
    · by_cases e : k = g
      · subst e
        rw [hc] at hk
        injection hk with hk
        subst hk
        rcases h with h | h
        · omega
        · exact absurd hT h.2
      · rw [hg.block k hlt (by simp [blk]; exact fun e' => e (by omega))]; exact hk, fun k cs hk => by
    have hlt := (Array.getElem?_eq_some_iff.1 hk).1
    refine ⟨cs, ?_, rfl⟩
    rcases hA with rfl | ⟨g, cur, rfl, hb, hc⟩
    · rw [hg.block k hlt (by simp [blk])]; exact hk
    · rw [hg.block k hlt (by
        simp [blk]
        rintro rfl
        rw [hc] at hk
        injection hk with hk
        injection hk with _ hk _
        rw [hT] at hk
        exact absurd hk (by decide))]
      exact hk⟩
/-- The slice that an expression or a statement holds: how long it is. (What it holds is not told here: a row in the making may share its kind with rows that are done; see NOTES.) -/
def ArgsV (w : World) (v : Value) (l : List Nat) : Prop := ∃ A c, v = .slice A l.length c
theorem ArgsV.kt {base : Nat} {w w' : World} {v : Value} {l : List Nat} (h : ArgsV w v l) (hk : KT base w w') : ArgsV w' v l := h
theorem ArgsV.nil (w : World) : ArgsV w (.slice none 0 0) [] := ⟨none, 0, rfl⟩
theorem IsErr.kt {base : Nat} {w w' : World} (hk : KT base w w') : ∀ {l : List (ByteArray × Int)} {v : Value} {code : Int}, IsErr w v l code → IsErr w' v l code := by
  intro l
  induction l with
  | nil => intro v code h; exact h
  | cons p r ih =>
    intro v code h
    obtain ⟨a, inner, rfl, hc, hi⟩ := h
    exact ⟨a, inner, rfl, hk.block a _ hc (.inr ⟨by decide, by decide⟩), ih hi⟩
/-! ### Expressions and statements in rows -/
def exCells (m : Ex × Value) : List Value := [.int .i64 m.1.kind, .string m.1.name, .int .u64 m.1.num, m.2, .int .i64 m.1.pos]
def smCells (m : Sm × Value) : List Value := [.int .i64 m.1.kind, .int .i64 m.1.party, .string m.1.name, m.2, .int .i64 m.1.expr, .int .i64 m.1.pos]
def OwnE (w : World) (base : Nat) (A : Option Addr) (c : Nat) (es : List Ex) : Prop :=
  ∃ ms : List (Ex × Value), ms.map Prod.fst = es ∧ w.ownsRow base 43 5 (.slice A es.length c) es.length (ms.flatMap exCells) ∧ ∀ m ∈ ms, ArgsV w m.2 m.1.args
def OwnS (w : World) (base : Nat) (A : Option Addr) (c : Nat) (ss : List Sm) : Prop :=
  ∃ ms : List (Sm × Value), ms.map Prod.fst = ss ∧ w.ownsRow base 38 6 (.slice A ss.length c) ss.length (ms.flatMap smCells) ∧ ∀ m ∈ ms, ArgsV w m.2 m.1.shape
theorem row_form {w : World} {base size n c : Nat} {T : TypeId} {A : Option Addr} {xs : List Value} (h : w.ownsRow base T size (.slice A n c) n xs) : A = none ∨ ∃ g cur, A = some ⟨g, 0, none⟩ ∧ base ≤ g ∧ w.heap[g]? = some (.cells cur T (0, 0)) := by
  rcases h.2 with ⟨hv, _⟩ | ⟨g, cap', cur, hv, hb, hg, _⟩
  · injection hv with a b c
    exact .inl a
  · injection hv with a b c
    exact .inr ⟨g, cur, a, hb, hg⟩
theorem row_keep {w w' : World} {base size n c : Nat} {T : TypeId} {A : Option Addr} {xs : List Value} (h : w.ownsRow base T size (.slice A n c) n xs) (hk : ∀ g cur, A = some ⟨g, 0, none⟩ → w.heap[g]? = some (.cells cur T (0, 0)) → w'.heap[g]? = some (.cells cur T (0, 0))) : w'.ownsRow base T size (.slice A n c) n xs := by
  refine ⟨h.1, ?_⟩
  rcases h.2 with hv | ⟨g, cap', cur, hv, hb1, hg, r⟩
  · exact .inl hv
  · have e : A = some ⟨g, 0, none⟩ := by injection hv
    exact .inr ⟨g, cap', cur, hv, hb1, hk g cur e hg, r⟩
theorem OwnE.keep {w w' : World} {base base' c : Nat} {A : Option Addr} {es : List Ex} (h : OwnE w base A c es) (ha : KT base' w w') (hk : ∀ g cur, A = some ⟨g, 0, none⟩ → w.heap[g]? = some (.cells cur 43 (0, 0)) → w'.heap[g]? = some (.cells cur 43 (0, 0))) : OwnE w' base A c es := by
  obtain ⟨ms, h1, h2, h3⟩ := h
  exact ⟨ms, h1, row_keep h2 hk, fun m hm => (h3 m hm).kt ha⟩
theorem OwnS.kt {w w' : World} {base base' c : Nat} {A : Option Addr} {ss : List Sm} (h : OwnS w base A c ss) (ha : KT base' w w') : OwnS w' base A c ss := by
  obtain ⟨ms, h1, h2, h3⟩ := h
  exact ⟨ms, h1, row_keep h2 (fun g cur _ hg => ha.block g _ hg (.inr ⟨by decide, by decide⟩)), fun m hm => (h3 m hm).kt ha⟩
theorem OwnE.nil (w : World) (base : Nat) : OwnE w base none 0 [] := ⟨[], rfl, World.ownsRow_nil w base _ 5, by simp⟩
theorem OwnS.nil (w : World) (base : Nat) : OwnS w base none 0 [] := ⟨[], rfl, World.ownsRow_nil w base _ 6, by simp⟩
def parN : ByteArray := { data := #[112, 97, 114, 115, 101] }
def ErrV (w : World) (v : Value) : Option (Nat × Nat) → Prop
  | none => v = .nilIface
  | some (c, p) => IsErr w v [(parN, (p : Int))] (c : Int)
theorem ErrV.kt {base : Nat} {w w' : World} {v : Value} : ∀ {e : Option (Nat × Nat)}, ErrV w v e → KT base w w' → ErrV w' v e
  | none, h, _ => h
  | some (c, p), h, hk => IsErr.kt hk h
/-- The parser's struct. -/
def PRow (TA : Option Addr) (n tc : Nat) (i : Nat) (S E : Value) (deep : Nat) (ev : Value) : Array Value := #[.slice TA n tc, .int .i64 i, S, E, .int .i64 deep, ev]
structure PR (base P : Nat) (TA : Option Addr) (tc : Nat) (L : List Tok) (s : PS) (w : World) (SA : Option Addr) (sc : Nat) (EA : Option Addr) (ec : Nat) (ev : Value) : Prop where
  hb : base ≤ P
  blk : w.heap[P]? = some (.cells (PRow TA L.length tc s.i (.slice SA s.ss.length sc) (.slice EA s.es.length ec) s.deep ev) 77 (0, 0))
  ownS : OwnS w base SA sc s.ss
  ownE : OwnE w base EA ec s.es
  err : ErrV w ev s.err
  toks : RdT w base TA L
  ety : ETyped w
  etb : 0 < base
  len : L.length ≤ 1000
  ii : s.i ≤ L.length
  dd : s.deep ≤ 32
  el : s.es.length ≤ s.i
  sl : s.ss.length ≤ 65
/-- The state s stands in memory at P. -/
def PM (base P : Nat) (TA : Option Addr) (tc : Nat) (L : List Tok) (s : PS) (w : World) : Prop := ∃ SA sc EA ec ev, PR base P TA tc L s w SA sc EA ec ev
section
variable {base P tc : Nat} {TA : Option Addr} {L : List Tok} {s : PS} {w w' : World} {SA EA : Option Addr} {sc ec : Nat} {ev : Value}
theorem PR.lt (h : PR base P TA tc L s w SA sc EA ec ev) : P < w.heap.size := (Array.getElem?_eq_some_iff.1 h.blk).1
theorem PR.base_le (h : PR base P TA tc L s w SA sc EA ec ev) : base ≤ w.heap.size := by have := h.lt; have := h.hb; omega
theorem ety_kt (h : ETyped w) (hb : 0 < base) (hk : KT base w w') : ETyped w' := by
  unfold ETyped at h ⊢
  have hlt := World.block_lt_of_cell? w _ h
  have e : w.heap[0]? = some (w.heap[0]'hlt) := Array.getElem?_eq_getElem _
  rw [← h]
  exact World.cell?_of_block ((hk.block _ _ e (.inl hb)).trans e.symm)
/-- Over a call that leaves every block as it was. -/
theorem PR.below (h : PR base P TA tc L s w SA sc EA ec ev) (hb : Below w.heap.size w w') : PR base P TA tc L s w' SA sc EA ec ev :=
  ⟨h.hb, (hb.block P h.lt).trans h.blk, h.ownS.kt (KT.below (base := base) hb),
    h.ownE.keep (KT.below (base := base) hb) (fun g cur _ hg => (hb.block g (Array.getElem?_eq_some_iff.1 hg).1).trans hg), h.err.kt (KT.below (base := base) hb),
    h.toks.below (hb.mono h.base_le), ety_kt h.ety h.etb (KT.below hb), h.etb, h.len, h.ii, h.dd, h.el, h.sl⟩
theorem prow_set1 (TA : Option Addr) (n tc i : Nat) (S E : Value) (deep : Nat) (ev : Value) (j : Nat) : (PRow TA n tc i S E deep ev).setIfInBounds 1 (.int .i64 (j : Int)) = PRow TA n tc j S E deep ev := rfl
theorem prow_set3 (TA : Option Addr) (n tc i : Nat) (S E : Value) (deep : Nat) (ev E' : Value) : (PRow TA n tc i S E deep ev).setIfInBounds 3 E' = PRow TA n tc i S E' deep ev := rfl
theorem prow_set2 (TA : Option Addr) (n tc i : Nat) (S E : Value) (deep : Nat) (ev S' : Value) : (PRow TA n tc i S E deep ev).setIfInBounds 2 S' = PRow TA n tc i S' E deep ev := rfl
theorem prow_set4 (TA : Option Addr) (n tc i : Nat) (S E : Value) (deep : Nat) (ev : Value) (j : Nat) : (PRow TA n tc i S E deep ev).setIfInBounds 4 (.int .i64 (j : Int)) = PRow TA n tc i S E j ev := rfl
theorem prow_set5 (TA : Option Addr) (n tc i : Nat) (S E : Value) (deep : Nat) (ev ev' : Value) : (PRow TA n tc i S E deep ev).setIfInBounds 5 ev' = PRow TA n tc i S E deep ev' := rfl
/-- A store into the parser's own struct leaves the rows. -/
theorem PR.store (h : PR base P TA tc L s w SA sc EA ec ev) (k : Nat) (v : Value) (hk2 : k ≠ 2) : KT base w (w.setCell ⟨P, k, none⟩ v) ∧ OwnS (w.setCell ⟨P, k, none⟩ v) base SA sc s.ss ∧ OwnE (w.setCell ⟨P, k, none⟩ v) base EA ec s.es ∧ RdT (w.setCell ⟨P, k, none⟩ v) base TA L ∧ ETyped (w.setCell ⟨P, k, none⟩ v) ∧
    (w.setCell ⟨P, k, none⟩ v).heap[P]? = some (.cells ((PRow TA L.length tc s.i (.slice SA s.ss.length sc) (.slice EA s.es.length ec) s.deep ev).setIfInBounds k v) 77 (0, 0)) := by
  have hk : KT base w (w.setCell ⟨P, k, none⟩ v) := KT.set (t := ⟨P, k, none⟩) h.blk h.hb rfl v rfl hk2
  refine ⟨hk, h.ownS.kt hk, h.ownE.keep hk ?_, h.toks.below (hk.toBelow h.base_le), ety_kt h.ety h.etb hk, heap_setCell_same _ _ _ _ _ _ h.blk⟩
  · intro g cur _ hg
    rw [setCell_ne _ _ _ (fun e => by
      have e' : g = P := e
      subst e'
      have hb := h.blk
      rw [hg] at hb
      injection hb with hb
      injection hb with _ hb _
      exact absurd hb (by decide))]
    exact hg
theorem PR.adv (h : PR base P TA tc L s w SA sc EA ec ev) (hi : s.i < L.length) : PR base P TA tc L (advP s) (w.setCell ⟨P, 1, none⟩ (.int .i64 ((s.i + 1 : Nat) : Int))) SA sc EA ec ev ∧ KT base w (w.setCell ⟨P, 1, none⟩ (.int .i64 ((s.i + 1 : Nat) : Int))) := by
  obtain ⟨k, a, b, c, d, e⟩ := h.store 1 (.int .i64 ((s.i + 1 : Nat) : Int)) (by decide)
  rw [prow_set1] at e
  exact ⟨⟨h.hb, e, a, b, h.err.kt k, c, d, h.etb, h.len, hi, h.dd, Nat.le_succ_of_le h.el, h.sl⟩, k⟩
theorem PR.deepen (h : PR base P TA tc L s w SA sc EA ec ev) (d' : Nat) (hd : d' ≤ 32) : PR base P TA tc L { s with deep := d' } (w.setCell ⟨P, 4, none⟩ (.int .i64 (d' : Int))) SA sc EA ec ev ∧ KT base w (w.setCell ⟨P, 4, none⟩ (.int .i64 (d' : Int))) := by
  obtain ⟨k, a, b, c, d, e⟩ := h.store 4 (.int .i64 (d' : Int)) (by decide)
  rw [prow_set4] at e
  exact ⟨⟨h.hb, e, a, b, h.err.kt k, c, d, h.etb, h.len, h.ii, hd, h.el, h.sl⟩, k⟩
theorem PR.fault (h : PR base P TA tc L s w SA sc EA ec ev) (c p : Nat) (ev' : Value) (he : IsErr w ev' [(parN, (p : Int))] (c : Int)) : PR base P TA tc L { s with err := some (c, p) } (w.setCell ⟨P, 5, none⟩ ev') SA sc EA ec ev' ∧ KT base w (w.setCell ⟨P, 5, none⟩ ev') := by
  obtain ⟨k, a, b, c', d, e⟩ := h.store 5 ev' (by decide)
  rw [prow_set5] at e
  exact ⟨⟨h.hb, e, a, b, IsErr.kt k he, c', d, h.etb, h.len, h.ii, h.dd, h.el, h.sl⟩, k⟩
end
end Go.Proofs.YtcefclglmhpdeaaGreatDoor
