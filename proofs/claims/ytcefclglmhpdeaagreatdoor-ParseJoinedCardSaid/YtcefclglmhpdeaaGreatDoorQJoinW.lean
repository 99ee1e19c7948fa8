/-
  A tree's rows turned in place.
-/
import Derived.Test.YtcefclglmhpdeaaGreatDoorQCut
import Derived.Test.YtcefclglmhpdeaaGreatDoorQMin
import Derived.Test.YtcefclglmhpdeaaGreatDoorQJoinB
import Derived.Test.YtcefclglmhpdeaaGreatDoorQTree
namespace Go.Proofs.YtcefclglmhpdeaaGreatDoor
set_option linter.unusedVariables false
set_option linter.unusedSimpArgs false
open Go.RowKit
theorem flat_set {α β : Type} (f : α → List β) (k : Nat) (hf : ∀ x, (f x).length = k) (x' : α) (v : β) : ∀ (l : List α) (i j : Nat) (x : α), l[i]? = some x → j < k → f x' = (f x).set j v → (l.set i x').flatMap f = (l.flatMap f).set (i * k + j) v
  | [], i, j, x, h, _, _ => by simp at h
  | y :: l, 0, j, x, h, hj, hv => by
    simp at h
    subst h
    rw [List.set_cons_zero, List.flatMap_cons, List.flatMap_cons, hv, Nat.zero_mul, Nat.zero_add, List.set_append_left _ _ (by rw [hf]; exact hj)]
  | y :: l, i + 1, j, x, h, hj, hv => by
    have ih := flat_set f k hf x' v l i j x (by simpa using h) hj hv
    rw [List.set_cons_succ, List.flatMap_cons, List.flatMap_cons, ih, List.set_append_right _ _ (by rw [hf, Nat.succ_mul]; omega)]
    congr 2
    rw [hf, Nat.succ_mul]
    omega
theorem flat_same {α β : Type} (f : α → List β) (x' : α) : ∀ (l : List α) (i : Nat) (x : α), l[i]? = some x → f x' = f x → (l.set i x').flatMap f = l.flatMap f
  | [], i, x, h, _ => by simp at h
  | y :: l, 0, x, h, hv => by
    simp at h
    subst h
    rw [List.set_cons_zero, List.flatMap_cons, List.flatMap_cons, hv]
  | y :: l, i + 1, x, h, hv => by
    rw [List.set_cons_succ, List.flatMap_cons, List.flatMap_cons, flat_same f x' l i x (by simpa using h) hv]
theorem pair_set {ms : List (Ex × Value)} {i : Nat} {m : Ex × Value} (hm : ms[i]? = some m) (x' : Ex) (h4 : ms.Pairwise fun a b => ∀ k, blk (vA a.2) = some k → blk (vA b.2) ≠ some k) : (ms.set i (x', m.2)).Pairwise fun a b => ∀ k, blk (vA a.2) = some k → blk (vA b.2) ≠ some k := by
  have hlt : i < ms.length := (List.getElem?_eq_some_iff.1 hm).1
  have e1 : (ms.set i (x', m.2)).map Prod.snd = ms.map Prod.snd := by
    rw [List.map_set]
    refine List.ext_getElem? fun q => ?_
    rw [List.getElem?_set]
    split
    · rename_i hq
      subst hq
      rw [List.length_map, if_pos hlt, List.getElem?_map, hm]
      rfl
    · rfl
  have e2 : (ms.map Prod.snd).Pairwise fun a b => ∀ k, blk (vA a) = some k → blk (vA b) ≠ some k := List.pairwise_map.2 h4
  rw [← e1] at e2
  exact List.pairwise_map.1 e2
theorem pair_ne {ms : List (Ex × Value)} {i q : Nat} {m y : Ex × Value} (hm : ms[i]? = some m) (hy : ms[q]? = some y) (hq : q ≠ i) (h4 : ms.Pairwise fun a b => ∀ k, blk (vA a.2) = some k → blk (vA b.2) ≠ some k) {b : Nat} (hb : blk (vA m.2) = some b) : blk (vA y.2) ≠ some b := by
  obtain ⟨i1, i2⟩ := List.getElem?_eq_some_iff.1 hm
  obtain ⟨q1, q2⟩ := List.getElem?_eq_some_iff.1 hy
  have h5 := List.pairwise_iff_getElem.1 h4
  rcases Nat.lt_or_gt_of_ne hq with h | h
  · have := h5 q i q1 i1 h
    rw [i2, q2] at this
    exact fun e => this b e hb
  · have := h5 i q i1 q1 h
    rw [i2, q2] at this
    exact this b hb
theorem row_set {w : World} {base k n c : Nat} {T : TypeId} {A : Option Addr} {xs : List Value} (h : w.ownsRow base T k (.slice A n c) n xs) {g : Nat} (hA : A = some ⟨g, 0, none⟩) (i : Nat) (v : Value) :
    (w.setCell ⟨g, i, none⟩ v).ownsRow base T k (.slice A n c) n (xs.set i v) := by
  refine ⟨by rw [List.length_set]; exact h.1, ?_⟩
  rcases h.2 with ⟨hv, h0⟩ | ⟨g', cap', cur, hv, hb, hg, h1, h2, h3, h4⟩
  · rw [hA] at hv; cases hv
  · have e : g' = g := by
      rw [hA] at hv
      injection hv with hv
      injection hv with hv
      injection hv with hv
      exact hv.symm
    subst e
    refine .inr ⟨g', cap', cur.setIfInBounds i v, hv, hb, heap_setCell_same _ _ _ _ _ _ hg, h1, h2, by rw [Array.size_setIfInBounds]; exact h3, ?_⟩
    rw [Array.toList_setIfInBounds, List.take_set, h4]
/-- A tree's rows: the shapes' blocks are none of Z, the args' blocks are all of Z. -/
structure SZ (Z : Nat → Prop) (w : World) (base : Nat) (SA : Option Addr) (sc : Nat) (ss : List Sm) (EA : Option Addr) (ec : Nat) (es : List Ex) : Prop where
  s : OwnSX Z w base SA sc ss
  e : OwnEX (fun k => ¬ Z k) w base EA ec es
section
variable {Z : Nat → Prop} {w w' : World} {base sc ec : Nat} {SA EA : Option Addr} {ss : List Sm} {es : List Ex}
theorem SZ.of (h : Sep noX w base SA sc ss EA ec es) : ∃ Z, SZ Z w base SA sc ss EA ec es := by
  obtain ⟨Z, a, b⟩ := h
  exact ⟨Z, a.re fun k hk => .inl (.inr hk), b.re fun k hk => .inl (.inr hk)⟩
theorem SZ.next (h : SZ Z w base SA sc ss EA ec es) (hb : Below w.heap.size w w') : SZ Z w' base SA sc ss EA ec es :=
  ⟨h.s.kt (KT.below (base := 0) hb), h.e.keep (KT.below (base := 0) hb) (fun g cur _ hg => (hb.block g (Array.getElem?_eq_some_iff.1 hg).1).trans hg)⟩
/-- What is read of a statement. -/
theorem SZ.sAt (h : SZ Z w base SA sc ss EA ec es) {i : Nat} {x : Sm} (hi : ss[i]? = some x) : ∃ g, SA = some ⟨g, 0, none⟩ ∧ base ≤ g ∧ (∃ cur, w.heap[g]? = some (.cells cur 38 (0, 0))) ∧ w.cell? ⟨g, i * 6, none⟩ = some (.int .i64 x.kind) ∧ w.cell? ⟨g, i * 6 + 4, none⟩ = some (.int .i64 x.expr) ∧ w.cell? ⟨g, i * 6 + 5, none⟩ = some (.int .i64 x.pos) ∧ ∀ j, w.frozen? ⟨g, j, none⟩ = false := by
  obtain ⟨ms, h1, h2, h3⟩ := h.s
  subst h1
  rw [List.getElem?_map, Option.map_eq_some_iff] at hi
  obtain ⟨m, hm, rfl⟩ := hi
  have hlt : i < ms.length := (List.getElem?_eq_some_iff.1 hm).1
  rcases h2.2 with ⟨hv, h0⟩ | ⟨g, cap', cur, hv, hb, hg, h4, h5, h6, h7⟩
  · rw [List.length_map] at h0; omega
  · injection hv with a b c
    have key : ∀ j v, (smCells m)[j]? = some v → j < 6 → w.cell? ⟨g, i * 6 + j, none⟩ = some v := fun j v hv hj => by
      have e := (tflat_nth smCells 6 (fun _ => rfl) ms i j m hm hj).trans hv
      rw [cell_of_row w g _ cur _ (0, 0) hg]
      rw [← h7, List.getElem?_take] at e
      split at e
      · simpa using e
      · cases e
    exact ⟨g, a, hb, ⟨cur, hg⟩, key 0 _ rfl (by omega), key 4 _ rfl (by omega), key 5 _ rfl (by omega), fun j => pfree_row hg j⟩
theorem SZ.eAt (h : SZ Z w base SA sc ss EA ec es) {i : Nat} {x : Ex} (hi : es[i]? = some x) : ∃ g, EA = some ⟨g, 0, none⟩ ∧ base ≤ g ∧ (∃ cur, w.heap[g]? = some (.cells cur 43 (0, 0))) ∧ w.cell? ⟨g, i * 5 + 4, none⟩ = some (.int .i64 x.pos) ∧ (∃ A c, w.cell? ⟨g, i * 5 + 3, none⟩ = some (.slice A x.args.length c)) ∧ ∀ j, w.frozen? ⟨g, j, none⟩ = false := by
  obtain ⟨ms, h1, h2, h3, _⟩ := h.e
  subst h1
  rw [List.getElem?_map, Option.map_eq_some_iff] at hi
  obtain ⟨m, hm, rfl⟩ := hi
  have hlt : i < ms.length := (List.getElem?_eq_some_iff.1 hm).1
  rcases h2.2 with ⟨hv, h0⟩ | ⟨g, cap', cur, hv, hb, hg, h4, h5, h6, h7⟩
  · rw [List.length_map] at h0; omega
  · injection hv with a b c
    have key : ∀ j v, (exCells m)[j]? = some v → j < 5 → w.cell? ⟨g, i * 5 + j, none⟩ = some v := fun j v hv hj => by
      have e := (tflat_nth exCells 5 (fun _ => rfl) ms i j m hm hj).trans hv
      rw [cell_of_row w g _ cur _ (0, 0) hg]
      rw [← h7, List.getElem?_take] at e
      split at e
      · simpa using e
      · cases e
    obtain ⟨A, c', e1, _⟩ := h3 m (List.mem_of_getElem? hm)
    exact ⟨g, a, hb, ⟨cur, hg⟩, key 4 _ rfl (by omega), ⟨A, c', by rw [← e1]; exact key 3 _ rfl (by omega)⟩, fun j => pfree_row hg j⟩
theorem SZ.setS (h : SZ Z w base SA sc ss EA ec es) {i : Nat} {x x' : Sm} (hi : ss[i]? = some x) {g : Nat} (hA : SA = some ⟨g, 0, none⟩) (j : Nat) (hj : j < 6) (v : Value) (hv : ∀ m2, smCells (x', m2) = (smCells (x, m2)).set j v) (hs : x'.shape = x.shape) :
    SZ Z (w.setCell ⟨g, i * 6 + j, none⟩ v) base SA sc (ss.set i x') EA ec es := by
  obtain ⟨ms, h1, h2, h3⟩ := h.s
  have hgT : ∃ cur, w.heap[g]? = some (.cells cur 38 (0, 0)) := by
    rcases row_form h2 with e | ⟨g', cur, e, _, hc⟩
    · rw [hA] at e; cases e
    · rw [hA] at e
      injection e with e
      injection e with e
      subst e
      exact ⟨cur, hc⟩
  obtain ⟨cur, hc⟩ := hgT
  have hty : ∀ (k : Nat) (cs : Array Value) (T : TypeId), w.heap[k]? = some (.cells cs T (0, 0)) → T ≠ 38 → (w.setCell ⟨g, i * 6 + j, none⟩ v).heap[k]? = some (.cells cs T (0, 0)) := fun k cs T hk hT => by
    rw [setCell_ne _ _ _ (fun e' => by
      have e'' : k = g := e'
      subst e''
      rw [hc] at hk
      injection hk with hk
      injection hk with _ hk _
      exact hT hk.symm)]
    exact hk
  refine ⟨?_, h.e.keep' (fun g cur _ hg => hty _ _ _ hg (by decide)) (fun g cur _ hg => hty _ _ _ hg (by decide))⟩
  subst h1
  rw [List.getElem?_map, Option.map_eq_some_iff] at hi
  obtain ⟨m, hm, rfl⟩ := hi
  refine ⟨ms.set i (x', m.2), by rw [List.map_set], ?_, fun y hy => ?_⟩
  · rw [List.length_set, flat_set smCells 6 (fun _ => rfl) (x', m.2) v ms i j m hm hj (hv m.2)]
    exact row_set h2 hA _ _
  · rcases List.mem_or_eq_of_mem_set hy with hy | rfl
    · exact (h3 y hy).keep (fun g cur _ hg => hty _ _ _ hg (by decide))
    · have := (h3 m (List.mem_of_getElem? hm)).keep (w' := w.setCell ⟨g, i * 6 + j, none⟩ v) (fun g cur _ hg => hty _ _ _ hg (by decide))
      show ArgsV _ _ _ m.2 x'.shape
      rw [hs]
      exact this
theorem SZ.setE (h : SZ Z w base SA sc ss EA ec es) {i : Nat} {x x' : Ex} (hi : es[i]? = some x) {g : Nat} (hA : EA = some ⟨g, 0, none⟩) (j : Nat) (hj : j < 5) (v : Value) (hv : ∀ m2, exCells (x', m2) = (exCells (x, m2)).set j v) (hs : x'.args = x.args) :
    SZ Z (w.setCell ⟨g, i * 5 + j, none⟩ v) base SA sc ss EA ec (es.set i x') := by
  obtain ⟨ms, h1, h2, h3, h4⟩ := h.e
  have hgT : ∃ cur, w.heap[g]? = some (.cells cur 43 (0, 0)) := by
    rcases row_form h2 with e | ⟨g', cur, e, _, hc⟩
    · rw [hA] at e; cases e
    · rw [hA] at e
      injection e with e
      injection e with e
      subst e
      exact ⟨cur, hc⟩
  obtain ⟨cur, hc⟩ := hgT
  have hty : ∀ (k : Nat) (cs : Array Value) (T : TypeId), w.heap[k]? = some (.cells cs T (0, 0)) → T ≠ 43 → (w.setCell ⟨g, i * 5 + j, none⟩ v).heap[k]? = some (.cells cs T (0, 0)) := fun k cs T hk hT => by
    rw [setCell_ne _ _ _ (fun e' => by
      have e'' : k = g := e'
      subst e''
      rw [hc] at hk
      injection hk with hk
      injection hk with _ hk _
      exact hT hk.symm)]
    exact hk
  refine ⟨h.s.keep' (fun g cur _ hg => hty _ _ _ hg (by decide)) (fun g cur _ hg => hty _ _ _ hg (by decide)), ?_⟩
  subst h1
  rw [List.getElem?_map, Option.map_eq_some_iff] at hi
  obtain ⟨m, hm, rfl⟩ := hi
  have hlt : i < ms.length := (List.getElem?_eq_some_iff.1 hm).1
  refine ⟨ms.set i (x', m.2), by rw [List.map_set], ?_, fun y hy => ?_, ?_⟩
  · rw [List.length_set, flat_set exCells 5 (fun _ => rfl) (x', m.2) v ms i j m hm hj (hv m.2)]
    exact row_set h2 hA _ _
  · rcases List.mem_or_eq_of_mem_set hy with hy | rfl
    · exact (h3 y hy).keep (fun g cur _ hg => hty _ _ _ hg (by decide))
    · have := (h3 m (List.mem_of_getElem? hm)).keep (w' := w.setCell ⟨g, i * 5 + j, none⟩ v) (fun g cur _ hg => hty _ _ _ hg (by decide))
      show ArgsV _ _ _ m.2 x'.args
      rw [hs]
      exact this
  · exact pair_set hm x' h4
/-- A number of an expression's args: where it lies; what a store there leaves. -/
theorem SZ.argAt (h : SZ Z w base SA sc ss EA ec es) {i : Nat} {x : Ex} (hi : es[i]? = some x) {g n c : Nat} {A : Option Addr} (hA : EA = some ⟨g, 0, none⟩) (hc : w.cell? ⟨g, i * 5 + 3, none⟩ = some (.slice A n c)) {j a : Nat} (hj : x.args[j]? = some a) :
    ∃ b, A = some ⟨b, 0, none⟩ ∧ base ≤ b ∧ (∃ cur, w.heap[b]? = some (.cells cur 3 (0, 0))) ∧ w.cell? ⟨b, j, none⟩ = some (.int .i64 a) ∧ w.frozen? ⟨b, j, none⟩ = false ∧ ∀ v : Nat, SZ Z (w.setCell ⟨b, j, none⟩ (.int .i64 (v : Int))) base SA sc ss EA ec (es.set i { x with args := x.args.set j v }) := by
  obtain ⟨ms, h1, h2, h3, h4⟩ := h.e
  have hs := h.s
  subst h1
  rw [List.getElem?_map, Option.map_eq_some_iff] at hi
  obtain ⟨m, hm, rfl⟩ := hi
  have hlt : i < ms.length := (List.getElem?_eq_some_iff.1 hm).1
  have hcell : w.cell? ⟨g, i * 5 + 3, none⟩ = some m.2 := by
    rcases h2.2 with ⟨hv, h0⟩ | ⟨g', cap', cur, hv, hb, hg, h5, h6, h7, h8⟩
    · rw [List.length_map] at h0; omega
    · injection hv with e1 _ _
      rw [hA] at e1
      injection e1 with e1
      injection e1 with e1
      subst e1
      have e := (tflat_nth exCells 5 (fun _ => rfl) ms i 3 m hm (by omega))
      rw [cell_of_row w g _ cur _ (0, 0) hg]
      rw [← h8, List.getElem?_take] at e
      split at e
      · simpa [exCells] using e
      · simp [exCells] at e
  have hm2 : m.2 = .slice A n c := by rw [hcell] at hc; injection hc
  obtain ⟨A0, c0, e1, ho, hz⟩ := h3 m (List.mem_of_getElem? hm)
  rw [hm2] at e1
  injection e1 with e1 e2 e3
  subst e1
  have hjl : j < m.1.args.length := (List.getElem?_eq_some_iff.1 hj).1
  rcases ho.form with ⟨_, h0⟩ | ⟨b, cur, hb0, hbb, hbg, b1, b2, b3, b4⟩
  · have : m.1.args = [] := by simpa using h0
    rw [this] at hjl; simp at hjl
  · have hZb : Z b := by
      by_cases hq : Z b
      · exact hq
      · exact absurd hq (fun hq => hz b (by rw [hb0]; rfl) hq)
    have hgb : (w.setCell ⟨b, j, none⟩ (.int .i64 (0 : Int))).heap.size = w.heap.size := by simp [World.setCell]
    refine ⟨b, hb0, hbb, ⟨cur, hbg⟩, ?_, pfree_row hbg j, fun v => ?_⟩
    · rw [cell_of_row w b _ cur _ (0, 0) hbg]
      have e : (cur.toList.take (m.1.args.map I64).length)[j]? = (m.1.args.map I64)[j]? := by rw [b4]
      rw [List.getElem?_take, if_pos (by rw [List.length_map]; exact hjl), List.getElem?_map, hj] at e
      have e2 : cur[j]? = some (I64 a) := by simpa using e
      exact e2
    · have hkeep : ∀ (k : Nat) (cs : Array Value) (T : TypeId), k ≠ b → w.heap[k]? = some (.cells cs T (0, 0)) → (w.setCell ⟨b, j, none⟩ (.int .i64 (v : Int))).heap[k]? = some (.cells cs T (0, 0)) := fun k cs T hk hh => by
        rw [setCell_ne _ _ _ (by exact hk)]; exact hh
      have hT : ∀ (k : Nat) (cs : Array Value) (T : TypeId), T ≠ 3 → w.heap[k]? = some (.cells cs T (0, 0)) → k ≠ b := fun k cs T hT hh e => by
        subst e
        rw [hbg] at hh
        injection hh with hh
        injection hh with _ hh _
        exact hT hh.symm
      refine ⟨hs.keep' (fun q cur' hq hh => hkeep q _ _ (fun e => hq (by rw [e]; exact hZb)) hh) (fun q cur' _ hh => hkeep q _ _ (hT q _ _ (by decide) hh) hh), ?_⟩
      refine ⟨ms.set i ({ m.1 with args := m.1.args.set j v }, m.2), by rw [List.map_set], ?_, ?_, ?_⟩
      · rw [List.length_set, flat_same exCells ({ m.1 with args := m.1.args.set j v }, m.2) ms i m hm rfl]
        exact row_keep h2 (fun q cur' _ hh => hkeep q _ _ (hT q _ _ (by decide) hh) hh)
      · intro y hy
        obtain ⟨q, hq⟩ := List.mem_iff_getElem?.1 hy
        rw [List.getElem?_set] at hq
        split at hq
        · rename_i e
          subst e
          injection hq with hq
          subst hq
          refine ⟨A, c, ?_, ?_, fun k hk => ?_⟩
          · rw [hm2, e2, List.length_set]
          · have h9 := row_set ho hb0 j (I64 v)
            rw [← List.map_set] at h9
            have e9 : (List.map I64 (m.1.args.set j v)).length = (List.map I64 m.1.args).length := by rw [List.length_map, List.length_map, List.length_set]
            unfold Own
            rw [e9, e3]
            exact h9
          · exact hz k hk
        · rename_i e
          have hne := pair_ne hm hq (fun h => e h.symm) h4 (b := b) (by rw [hm2]; show blk A = some b; rw [hb0]; rfl)
          have hy2 := h3 y (List.mem_of_getElem? hq)
          obtain ⟨A1, c1, p1, p2, p3⟩ := hy2
          exact ⟨A1, c1, p1, own_keep p2 (fun q' cur' hq' hh => hkeep q' _ _ (fun e' => hne (by rw [p1]; show blk A1 = some b; rw [hq', e']; rfl)) hh), p3⟩
      · exact pair_set hm _ h4
end
/-! ### The list so far, the turned and the others -/
def midL {α : Type} (f : α → α) (ys : List α) (i : Nat) : List α := ys.take i ++ (ys.drop i).map f
section
variable {α : Type} {f : α → α} {xs ys : List α} {i : Nat}
theorem mid_zero : midL f ys 0 = ys.map f := by unfold midL; simp
theorem mid_end : midL f ys ys.length = ys := by unfold midL; simp
theorem mid_len : (midL f ys i).length = ys.length := by unfold midL; simp; omega
theorem mid_get {y : α} (h : ys[i]? = some y) : (xs ++ midL f ys i)[xs.length + i]? = some (f y) := by
  have hi := (List.getElem?_eq_some_iff.1 h).1
  rw [List.getElem?_append_right (by omega), Nat.add_sub_cancel_left]
  unfold midL
  rw [List.getElem?_append_right (by rw [List.length_take]; omega), List.length_take, Nat.min_eq_left (by omega), Nat.sub_self, List.getElem?_map, List.getElem?_drop, Nat.add_zero, h]
  rfl
theorem mid_set {y : α} (h : ys[i]? = some y) : (xs ++ midL f ys i).set (xs.length + i) y = xs ++ midL f ys (i + 1) := by
  obtain ⟨hi, hy⟩ := List.getElem?_eq_some_iff.1 h
  rw [List.set_append_right _ _ (by omega), Nat.add_sub_cancel_left]
  congr 1
  unfold midL
  rw [List.set_append_right _ _ (by rw [List.length_take]; omega), List.length_take, Nat.min_eq_left (by omega), Nat.sub_self]
  rw [List.drop_eq_getElem_cons hi, List.map_cons, List.set_cons_zero, List.take_succ_eq_append_getElem hi, hy, List.append_assoc]
  rfl
theorem mid_get0 {y : α} (h : ys[i]? = some y) : (midL f ys i)[i]? = some (f y) := by
  have := mid_get (xs := []) (f := f) h
  simpa using this
theorem mid_set0 {y : α} (h : ys[i]? = some y) : (midL f ys i).set i y = midL f ys (i + 1) := by
  have := mid_set (xs := []) (f := f) h
  simpa using this
end
theorem not_last {w : World} {B1 g : Nat} {a b : Array Value} {T U : TypeId} (h : w.heap[B1]? = some (.cells a T (0, 0))) (h' : w.heap[g]? = some (.cells b U (0, 0))) (hT : U ≠ T) (hs : w.heap.size ≤ B1 + 1) : g < B1 := by
  have h1 := (Array.getElem?_eq_some_iff.1 h').1
  by_cases e : g = B1
  · subst e
    rw [h] at h'
    injection h' with h'
    injection h' with _ h' _
    exact absurd h'.symm hT
  · omega
/-- Only blocks from B0 to B1 are turned. -/
structure Fr2 (B0 B1 : Nat) (wp wr : World) : Prop where
  os : wr.os = wp.os
  tape : wr.tape = wp.tape
  output : wr.output = wp.output
  size : wr.heap.size = wp.heap.size
  out : ∀ k, k < B0 ∨ B1 ≤ k → wr.heap[k]? = wp.heap[k]?
section
variable {B0 B1 : Nat} {wp wr : World}
theorem Fr2.refl (B0 B1 : Nat) (w : World) : Fr2 B0 B1 w w := ⟨rfl, rfl, rfl, rfl, fun _ _ => rfl⟩
theorem Fr2.below (h : Fr2 B0 B1 wp wr) {B : Nat} (hB : B ≤ B0) : Below B wp wr := ⟨h.os, h.tape, h.output, Nat.le_of_eq h.size.symm, fun k hk => h.out k (.inl (by omega))⟩
theorem Fr2.set (h : Fr2 B0 B1 wp wr) {k j : Nat} (h0 : B0 ≤ k) (h1 : k < B1) (v : Value) : Fr2 B0 B1 wp (wr.setCell ⟨k, j, none⟩ v) :=
  ⟨h.os, h.tape, h.output, by simp [World.setCell, h.size], fun i hi => by
    rw [setCell_ne _ _ _ (by show i ≠ k; omega)]
    exact h.out i hi⟩
end
/-- Rows that are read, cut. -/
theorem RdS.taken {w : World} {B : Nat} {A : Option Addr} {xs ys : List Sm} (h : RdS w B A (xs ++ ys)) : RdS w B A xs := by
  rcases h with h | ⟨b, o, hA, hb, hc⟩
  · exact .inl (by simp at h; exact h.1)
  · exact .inr ⟨b, o, hA, hb, fun i x hi => hc i x (by rw [List.getElem?_append_left (List.getElem?_eq_some_iff.1 hi).1]; exact hi)⟩
theorem RdE.taken {w : World} {B : Nat} {A : Option Addr} {xs ys : List Ex} (h : RdE w B A (xs ++ ys)) : RdE w B A xs := by
  rcases h with h | ⟨b, o, hA, hb, hc⟩
  · exact .inl (by simp at h; exact h.1)
  · exact .inr ⟨b, o, hA, hb, fun i x hi => hc i x (by rw [List.getElem?_append_left (List.getElem?_eq_some_iff.1 hi).1]; exact hi)⟩
theorem addr_add (b o k : Nat) : (⟨b, o, none⟩ : Addr).add k = ⟨b, o + k, none⟩ := by unfold Addr.add; split <;> simp_all
theorem RdS.cut {w : World} {B c : Nat} {A : Option Addr} {xs ys : List Sm} (h : RdS w B A (xs ++ ys)) (hc : xs.length + ys.length ≤ c) : RdS w B (cutA A xs.length 6 c) ys := by
  by_cases hy : ys = []
  · exact .inl hy
  · have hl := List.length_pos_iff.2 hy
    rcases h with h | ⟨b, o, hA, hb, hcc⟩
    · simp at h; exact absurd h.2 hy
    · refine .inr ⟨b, o + xs.length * 6, ?_, hb, fun i x hi => ?_⟩
      · unfold cutA
        rw [if_neg (by omega), hA]
        show some ((⟨b, o, none⟩ : Addr).add (xs.length * 6)) = _
        rw [addr_add]
      · have := hcc (xs.length + i) x (by rw [List.getElem?_append_right (by omega), Nat.add_sub_cancel_left]; exact hi)
        rw [show o + (xs.length + i) * 6 = o + xs.length * 6 + i * 6 from by omega] at this
        exact this
theorem RdE.cut {w : World} {B c : Nat} {A : Option Addr} {xs ys : List Ex} (h : RdE w B A (xs ++ ys)) (hc : xs.length + ys.length ≤ c) : RdE w B (cutA A xs.length 5 c) ys := by
  by_cases hy : ys = []
  · exact .inl hy
  · have hl := List.length_pos_iff.2 hy
    rcases h with h | ⟨b, o, hA, hb, hcc⟩
    · simp at h; exact absurd h.2 hy
    · refine .inr ⟨b, o + xs.length * 5, ?_, hb, fun i x hi => ?_⟩
      · unfold cutA
        rw [if_neg (by omega), hA]
        show some ((⟨b, o, none⟩ : Addr).add (xs.length * 5)) = _
        rw [addr_add]
      · have := hcc (xs.length + i) x (by rw [List.getElem?_append_right (by omega), Nat.add_sub_cancel_left]; exact hi)
        rw [show o + (xs.length + i) * 5 = o + xs.length * 5 + i * 5 from by omega] at this
        exact this
end Go.Proofs.YtcefclglmhpdeaaGreatDoor
