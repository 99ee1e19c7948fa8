/-
  Rows of statements and of expressions with any integers, of the call's own: appends and stores. Printed by gen_ownt.py. The law's Own walked: a tree with lists of its own.
-/
import Derived.Test.YthnkeejiocnflaaGreatDoorQTree
import Derived.Test.YthnkeejiocnflaaGreatDoorQCut
import Derived.Test.YthnkeejiocnflaaGreatDoorQChkB
import Derived.Test.YthnkeejiocnflaaGreatDoorQChkP
import Derived.Test.YthnkeejiocnflaaGreatDoorQChkR
import Derived.BigQuiet
namespace Go.Proofs.YthnkeejiocnflaaGreatDoor
set_option linter.unusedVariables false
set_option linter.unusedSimpArgs false
open Go.RowKit
theorem oflat_set {α β : Type} (f : α → List β) (k : Nat) (hf : ∀ x, (f x).length = k) (x' : α) (v : β) : ∀ (l : List α) (i j : Nat) (x : α), l[i]? = some x → j < k → f x' = (f x).set j v → (l.set i x').flatMap f = (l.flatMap f).set (i * k + j) v
  | [], i, j, x, h, _, _ => by simp at h
  | y :: l, 0, j, x, h, hj, hv => by
    simp at h
    subst h
    rw [List.set_cons_zero, List.flatMap_cons, List.flatMap_cons, hv, Nat.zero_mul, Nat.zero_add, List.set_append_left _ _ (by rw [hf]; exact hj)]
  | y :: l, i + 1, j, x, h, hj, hv => by
    have ih := oflat_set f k hf x' v l i j x (by simpa using h) hj hv
    rw [List.set_cons_succ, List.flatMap_cons, List.flatMap_cons, ih, List.set_append_right _ _ (by rw [hf, Nat.succ_mul]; omega)]
    congr 2
    rw [hf, Nat.succ_mul]
    omega
/-- A slice of integers in a row of the call's own. -/
def ArgI (w : World) (B : Nat) (v : Value) (l : List Int) : Prop := ∃ A c, v = .slice A l.length c ∧ Own w B 3 A c (l.map VI)
theorem owni_keep {w w' : World} {b cap : Nat} {A : Option Addr} {xs : List Value} (h : Own w b 3 A cap xs) (hk : ∀ (g : Nat) (cur : Array Value), w.heap[g]? = some (.cells cur 3 (0, 0)) → w'.heap[g]? = some (.cells cur 3 (0, 0))) : Own w' b 3 A cap xs := by
  refine ⟨h.1, ?_⟩
  rcases h.2 with hv | ⟨g, cap', cur, hv, hb1, hg, r⟩
  · exact .inl hv
  · exact .inr ⟨g, cap', cur, hv, hb1, hk g cur hg, r⟩
theorem ArgI.keep {w w' : World} {b : Nat} {v : Value} {l : List Int} (h : ArgI w b v l) (hk : ∀ (g : Nat) (cur : Array Value), w.heap[g]? = some (.cells cur 3 (0, 0)) → w'.heap[g]? = some (.cells cur 3 (0, 0))) : ArgI w' b v l := by
  obtain ⟨A, c, h1, h2⟩ := h
  exact ⟨A, c, h1, owni_keep h2 hk⟩
theorem ArgI.base {w : World} {b b' : Nat} {v : Value} {l : List Int} (h : ArgI w b v l) (hb : b' ≤ b) : ArgI w b' v l := by
  obtain ⟨A, c, h1, h2⟩ := h
  exact ⟨A, c, h1, h2.more hb⟩
theorem ArgI.int {w : World} {b : Nat} {v : Value} {l : List Int} (h : ArgI w b v l) : ∃ A c, v = .slice A l.length c ∧ Rd w w.heap.size A (l.map VI) ∧ l.length ≤ 9223372036854775807 ∧ l.length ≤ c ∧ c ≤ 9223372036854775807 := by
  obtain ⟨A, c, h1, h2⟩ := h
  have hc := own_caps h2
  rw [List.length_map] at hc
  exact ⟨A, c, h1, h2.rd, hc⟩
theorem ArgI.one {w : World} {b : Nat} {v : Value} {l : List Int} (h : ArgI w b v l) : v.oneCell' = true := by
  obtain ⟨A, c, rfl, _⟩ := h
  rfl
/-- What a world keeps of integers' blocks. -/
def KI (w w' : World) : Prop := ∀ (g : Nat) (cur : Array Value), w.heap[g]? = some (.cells cur 3 (0, 0)) → w'.heap[g]? = some (.cells cur 3 (0, 0))
theorem KI.below {w w' : World} (h : Below w.heap.size w w') : KI w w' := fun g cur hg => (h.block g (Array.getElem?_eq_some_iff.1 hg).1).trans hg
theorem KI.trans {a b c : World} (h : KI a b) (h' : KI b c) : KI a c := fun g cur hg => h' g cur (h g cur hg)
theorem KI.set {w : World} {b k : Nat} {cs : Array Value} {T : TypeId} {fr : Nat × Nat} (hp : w.heap[b]? = some (.cells cs T fr)) (hT : T ≠ 3) (v : Value) : KI w (w.setCell ⟨b, k, none⟩ v) := fun g cur hg => by
  rw [Below.heap_setCell w ⟨b, k, none⟩ v g (fun e => by
    have e' : g = b := e
    subst e'
    rw [hp] at hg
    injection hg with hg
    injection hg with _ hg _
    exact hT hg)]
  exact hg
theorem KI.grown {w w' : World} {A : Option Addr} {T : TypeId} (hg : w.grownBy w' (blk A)) (hT : T ≠ 3) (hA : A = none ∨ ∃ g cur, A = some ⟨g, 0, none⟩ ∧ w.heap[g]? = some (.cells cur T (0, 0))) : KI w w' := fun k cur hk => by
  rw [hg.block k (Array.getElem?_eq_some_iff.1 hk).1 (fun e => by
    rcases hA with rfl | ⟨g, cur', rfl, hc⟩
    · simp [blk] at e
    · have e' : k = g := by simpa [blk] using e
      subst e'
      rw [hc] at hk
      injection hk with hk
      injection hk with _ hk _
      exact hT hk)]
  exact hk
theorem rown_form {w : World} {base size n c : Nat} {T : TypeId} {A : Option Addr} {xs : List Value} (h : w.ownsRow base T size (.slice A n c) n xs) : A = none ∨ ∃ g cur, A = some ⟨g, 0, none⟩ ∧ base ≤ g ∧ w.heap[g]? = some (.cells cur T (0, 0)) := by
  rcases h.2 with ⟨hv, _⟩ | ⟨g, cap', cur, hv, hb, hg, _⟩
  · injection hv with a b c
    exact .inl a
  · injection hv with a b c
    exact .inr ⟨g, cur, a, hb, hg⟩
theorem rown_keep {w w' : World} {base size n c : Nat} {T : TypeId} {A : Option Addr} {xs : List Value} (h : w.ownsRow base T size (.slice A n c) n xs) (hk : ∀ k, blk A = some k → w'.heap[k]? = w.heap[k]?) : w'.ownsRow base T size (.slice A n c) n xs := by
  refine ⟨h.1, ?_⟩
  rcases h.2 with hv | ⟨g, cap', cur, hv, hb1, hg, r⟩
  · exact .inl hv
  · have e : blk A = some g := by injection hv with a; rw [a]; rfl
    exact .inr ⟨g, cap', cur, hv, hb1, (hk g e).trans hg, r⟩
theorem rown_base {w : World} {base base' size n c : Nat} {T : TypeId} {A : Option Addr} {xs : List Value} (h : w.ownsRow base T size (.slice A n c) n xs) (hb : base' ≤ base) : w.ownsRow base' T size (.slice A n c) n xs := by
  refine ⟨h.1, ?_⟩
  rcases h.2 with hv | ⟨g, cap', cur, hv, hb1, r⟩
  · exact .inl hv
  · exact .inr ⟨g, cap', cur, hv, by omega, r⟩
/-- A store into a row of the call's own. -/
theorem rown_set {w : World} {base size n c k : Nat} {T : TypeId} {g : Nat} {xs : List Value} (h : w.ownsRow base T size (.slice (some ⟨g, 0, none⟩) n c) n xs) (v : Value) (hk : k < n * size) : (w.setCell ⟨g, k, none⟩ v).ownsRow base T size (.slice (some ⟨g, 0, none⟩) n c) n (xs.set k v) := by
  refine ⟨by rw [List.length_set]; exact h.1, ?_⟩
  rcases h.2 with ⟨hv, _⟩ | ⟨g', cap', cur, hv, hb1, hg, h1, h2, h3, h4⟩
  · injection hv with a; cases a
  · have e : g' = g := by injection hv with a; injection a with a; injection a with a; exact a.symm
    subst e
    refine .inr ⟨g', cap', cur.setIfInBounds k v, hv, hb1, by simp [World.setCell, Array.getElem?_modify, hg], h1, h2, by simpa using h3, ?_⟩
    rw [Array.toList_setIfInBounds, List.take_set, h4]

def siC (m : SI × Value) : List Value := [.int .i64 m.1.kind, .int .i64 m.1.party, .string m.1.name, m.2, .int .i64 m.1.expr, .int .i64 m.1.pos]
def OwnSI (w : World) (B : Nat) (A : Option Addr) (c : Nat) (l : List SI) : Prop :=
  ∃ ms : List (SI × Value), ms.map Prod.fst = l ∧ w.ownsRow B 46 6 (.slice A l.length c) l.length (ms.flatMap siC) ∧ ∀ m ∈ ms, ArgI w B m.2 m.1.shape
theorem OwnSI.nil (w : World) (B : Nat) : OwnSI w B none 0 [] := ⟨[], rfl, World.ownsRow_nil w B _ 6, by simp⟩
theorem OwnSI.keep {w w' : World} {B c : Nat} {A : Option Addr} {l : List SI} (h : OwnSI w B A c l) (hi : KI w w') (hk : ∀ k, blk A = some k → w'.heap[k]? = w.heap[k]?) : OwnSI w' B A c l := by
  obtain ⟨ms, h1, h2, h3⟩ := h
  exact ⟨ms, h1, rown_keep h2 hk, fun m hm => (h3 m hm).keep hi⟩
theorem OwnSI.form {w : World} {B c : Nat} {A : Option Addr} {l : List SI} (h : OwnSI w B A c l) : A = none ∨ ∃ g cur, A = some ⟨g, 0, none⟩ ∧ B ≤ g ∧ w.heap[g]? = some (.cells cur 46 (0, 0)) := by
  obtain ⟨ms, h1, h2, h3⟩ := h
  exact rown_form h2
theorem OwnSI.lt {w : World} {B c : Nat} {A : Option Addr} {l : List SI} (h : OwnSI w B A c l) : ∀ k, blk A = some k → B ≤ k ∧ k < w.heap.size := fun k hk => by
  rcases h.form with rfl | ⟨g, cur, rfl, hb, hg⟩
  · cases hk
  · have e : g = k := by simpa [blk] using hk
    subst e
    exact ⟨hb, (Array.getElem?_eq_some_iff.1 hg).1⟩
theorem OwnSI.next {w w' : World} {B c : Nat} {A : Option Addr} {l : List SI} (h : OwnSI w B A c l) (hb : Below w.heap.size w w') : OwnSI w' B A c l := h.keep (KI.below hb) fun k hk => hb.block k (h.lt k hk).2
theorem OwnSI.base {w : World} {B B' c : Nat} {A : Option Addr} {l : List SI} (h : OwnSI w B A c l) (hb : B' ≤ B) : OwnSI w B' A c l := by
  obtain ⟨ms, h1, h2, h3⟩ := h
  exact ⟨ms, h1, rown_base h2 hb, fun m hm => (h3 m hm).base hb⟩
/-- A store into a block of another kind. -/
theorem OwnSI.other {w : World} {B c b k : Nat} {A : Option Addr} {l : List SI} {cs : Array Value} {T : TypeId} {fr : Nat × Nat} (h : OwnSI w B A c l) (hp : w.heap[b]? = some (.cells cs T fr)) (hT : T ≠ 3) (hT2 : T ≠ 46) (v : Value) : OwnSI (w.setCell ⟨b, k, none⟩ v) B A c l :=
  h.keep (KI.set hp hT v) fun g hg => Below.heap_setCell w ⟨b, k, none⟩ v g (fun e => by
    have e' : g = b := e
    subst e'
    rcases h.form with rfl | ⟨g', cur, rfl, _, hc⟩
    · cases hg
    · have e2 : g' = g := by simpa [blk] using hg
      subst e2
      rw [hp] at hc
      injection hc with hc
      injection hc with _ hc _
      exact hT2 hc)
theorem OwnSI.rd {w : World} {B c : Nat} {A : Option Addr} {l : List SI} (h : OwnSI w B A c l) : RdSI w w.heap.size A l := by
  obtain ⟨ms, h1, h2, h3⟩ := h
  by_cases hl : l = []
  · subst hl
    exact .inl rfl
  · obtain ⟨g, hA, hg, _, hc⟩ := trow_cell h2 (List.length_pos_iff.2 hl)
    refine .inr ⟨g, 0, hA, hg, fun i x hx => ?_⟩
    subst h1
    rw [List.getElem?_map, Option.map_eq_some_iff] at hx
    obtain ⟨m, hm, rfl⟩ := hx
    have key : ∀ j v, (siC m)[j]? = some v → j < 6 → w.cell? ⟨g, 0 + i * 6 + j, none⟩ = some v := fun j v hv hj => by
      rw [Nat.zero_add]
      exact hc _ v ((tflat_nth siC 6 (fun _ => rfl) ms i j m hm hj).trans hv)
    obtain ⟨A', c', e1, e2⟩ := (h3 m (List.mem_of_getElem? hm)).int
    exact ⟨key 0 _ rfl (by omega), key 1 _ rfl (by omega), key 2 _ rfl (by omega), ⟨A', c', by rw [← e1]; exact key 3 _ rfl (by omega), e2⟩, key 4 _ rfl (by omega), key 5 _ rfl (by omega)⟩
theorem siI_info : (Tryz.prog.info? 46).map (fun i => (i.zero, i.size, i.bytes)) = some (some (.agg #[.int .i64 0, .int .i64 0, .string ⟨#[]⟩, .slice none 0 0, .int .i64 0, .int .i64 0]), 6, 72) := by kernel_rfl
/-- append of one. -/
theorem run_appSI {w : World} (ty : TypeId) (B : Nat) (A : Option Addr) (cap n : Nat) (l : List SI) (hn : n = l.length) (hown : OwnSI w B A cap l) (g2 : Nat) (m : SI × Value) (hb : w.heap[g2]? = some (.cells (siC m).toArray 46 (0, 0))) (hargs : ArgI w B m.2 m.1.shape)
    (hbytes : n ≤ 100000) (hbase : B ≤ w.heap.size) :
    ∃ A' cap' w', (Builtin.append_ #[26, 26] ty #[.slice A n cap, .slice (some ⟨g2, 0, none⟩) 1 1]).run Tryz.prog w = .ok (.slice A' (n + 1) cap') w' ∧ OwnSI w' B A' cap' (l ++ [m.1]) ∧ w.grownBy w' (blk A) ∧ (blk A' = blk A ∨ blk A' = some w.heap.size) ∧ KI w w' := by
  subst hn
  obtain ⟨ms, h1, h2, h3⟩ := hown
  obtain ⟨i0, hi0, hz0, hz1, hz2⟩ := info_parts siI_info
  obtain ⟨A', cap', w', r1, r2, r3, r4⟩ := run_appN (P := Tryz.prog) w B 26 ty 46 i0 _ 6 72 Tryz.underlying26 hi0 hz0 hz1 (by decide) hz2 rfl A cap l.length (ms.flatMap siC) h2 g2 (siC m) rfl (fun j u hu => by
      rw [cell_of_row w g2 j _ _ (0, 0) hb]
      simpa using hu) (fun u hu => by
      unfold siC at hu
      simp at hu
      rcases hu with rfl | rfl | rfl | rfl | rfl | rfl
      · rfl
      · rfl
      · rfl
      · exact hargs.one
      · rfl
      · rfl) (by simp only [maxLen]; omega) (by omega) hbase
  have hki : KI w w' := KI.grown (T := 46) r3 (by decide) (by
    rcases rown_form h2 with h | ⟨g, cur, e, _, hc⟩
    · exact .inl h
    · exact .inr ⟨g, cur, e, hc⟩)
  refine ⟨A', cap', w', r1, ⟨ms ++ [m], by rw [List.map_append, h1]; rfl, ?_, ?_⟩, r3, r4, hki⟩
  · rw [List.flatMap_append, List.length_append]
    simp only [List.flatMap_cons, List.flatMap_nil, List.append_nil]
    exact r2
  · intro y hy
    rcases List.mem_append.1 hy with hy | hy
    · exact (h3 y hy).keep hki
    · rw [List.mem_singleton.1 hy]
      exact hargs.keep hki
theorem appSI {w : World} {ops : Array Oper} {rest : List Oper} {o : Oper} {a : Act} {Q : Exit → Act → World → Prop} (hgd : o.guard = none) (s x : Operand)
    (ho : o.op = .call { callee := .builtin .append, args := #[s, x], argTypes := #[26, 26] }) (B : Nat)
    (A : Option Addr) (cap n : Nat) (l : List SI) (hn : n = l.length) (hs : a.eval s = .slice A n cap) (hown : OwnSI w B A cap l)
    (g2 : Nat) (hx : a.eval x = .slice (some ⟨g2, 0, none⟩) 1 1) (m : SI × Value) (hb : w.heap[g2]? = some (.cells (siC m).toArray 46 (0, 0))) (hargs : ArgI w B m.2 m.1.shape)
    (hbytes : n ≤ 100000) (hbase : B ≤ w.heap.size)
    (h : ∀ A' cap' w', OwnSI w' B A' cap' (l ++ [m.1]) → w.grownBy w' (blk A) → (blk A' = blk A ∨ blk A' = some w.heap.size) → KI w w' → wpList Tryz.prog ops Q rest (a.put o.dst (.slice A' (n + 1) cap')) w') :
    wpList Tryz.prog ops Q (o :: rest) a w := by
  obtain ⟨A', cap', w', hrun, h2, h3, h4, h5⟩ := run_appSI o.type B A cap n l hn hown g2 m hb hargs hbytes hbase
  refine wpList_plain hgd fun K hK => ?_
  unfold Oper.wp execOp
  simp only [ho, resolve, invoke, builtin, Sem.run_bind, Sem.run_pure, Result.andThen_ok, List.map_toArray, List.map_cons, List.map_nil, hs, hx, hrun]
  exact hK _ _ (h A' cap' w' h2 h3 h4 h5)
/-- A name is stored. -/
theorem OwnSI.name {w : World} {B c g k : Nat} {l : List SI} {x : SI} (h : OwnSI w B (some ⟨g, 0, none⟩) c l) (hk : l[k]? = some x) (nm : ByteArray) : OwnSI (w.setCell ⟨g, k * 6 + 2, none⟩ (.string nm)) B (some ⟨g, 0, none⟩) c (l.set k { x with name := nm }) := by
  obtain ⟨ms, h1, h2, h3⟩ := h
  subst h1
  rw [List.getElem?_map, Option.map_eq_some_iff] at hk
  obtain ⟨m, hm, rfl⟩ := hk
  have hlt := (List.getElem?_eq_some_iff.1 hm).1
  have hki : KI w (w.setCell ⟨g, k * 6 + 2, none⟩ (.string nm)) := by
    rcases rown_form h2 with e | ⟨g', cur, e, _, hc⟩
    · cases e
    · injection e with e
      injection e with e
      subst e
      exact KI.set hc (by decide) _
  refine ⟨ms.set k ({ m.1 with name := nm }, m.2), by rw [List.map_set], ?_, ?_⟩
  · rw [oflat_set siC 6 (fun _ => rfl) ({ m.1 with name := nm }, m.2) (.string nm) ms k 2 m hm (by omega) rfl, List.length_set]
    exact rown_set h2 _ (by rw [List.length_map]; omega)
  · intro y hy
    rw [List.mem_iff_getElem?] at hy
    obtain ⟨i, hi⟩ := hy
    by_cases e : k = i
    · subst e
      rw [List.getElem?_set_self hlt] at hi
      injection hi with hi
      subst hi
      exact (h3 m (List.mem_of_getElem? hm)).keep hki
    · rw [List.getElem?_set_ne e] at hi
      exact (h3 y (List.mem_of_getElem? hi)).keep hki

def eiC (m : EI × Value) : List Value := [.int .i64 m.1.kind, .string m.1.name, .int .u64 m.1.num, m.2, .int .i64 m.1.pos]
def OwnEI (w : World) (B : Nat) (A : Option Addr) (c : Nat) (l : List EI) : Prop :=
  ∃ ms : List (EI × Value), ms.map Prod.fst = l ∧ w.ownsRow B 41 5 (.slice A l.length c) l.length (ms.flatMap eiC) ∧ ∀ m ∈ ms, ArgI w B m.2 m.1.args
theorem OwnEI.nil (w : World) (B : Nat) : OwnEI w B none 0 [] := ⟨[], rfl, World.ownsRow_nil w B _ 5, by simp⟩
theorem OwnEI.keep {w w' : World} {B c : Nat} {A : Option Addr} {l : List EI} (h : OwnEI w B A c l) (hi : KI w w') (hk : ∀ k, blk A = some k → w'.heap[k]? = w.heap[k]?) : OwnEI w' B A c l := by
  obtain ⟨ms, h1, h2, h3⟩ := h
  exact ⟨ms, h1, rown_keep h2 hk, fun m hm => (h3 m hm).keep hi⟩
theorem OwnEI.form {w : World} {B c : Nat} {A : Option Addr} {l : List EI} (h : OwnEI w B A c l) : A = none ∨ ∃ g cur, A = some ⟨g, 0, none⟩ ∧ B ≤ g ∧ w.heap[g]? = some (.cells cur 41 (0, 0)) := by
  obtain ⟨ms, h1, h2, h3⟩ := h
  exact rown_form h2
theorem OwnEI.lt {w : World} {B c : Nat} {A : Option Addr} {l : List EI} (h : OwnEI w B A c l) : ∀ k, blk A = some k → B ≤ k ∧ k < w.heap.size := fun k hk => by
  rcases h.form with rfl | ⟨g, cur, rfl, hb, hg⟩
  · cases hk
  · have e : g = k := by simpa [blk] using hk
    subst e
    exact ⟨hb, (Array.getElem?_eq_some_iff.1 hg).1⟩
theorem OwnEI.next {w w' : World} {B c : Nat} {A : Option Addr} {l : List EI} (h : OwnEI w B A c l) (hb : Below w.heap.size w w') : OwnEI w' B A c l := h.keep (KI.below hb) fun k hk => hb.block k (h.lt k hk).2
theorem OwnEI.base {w : World} {B B' c : Nat} {A : Option Addr} {l : List EI} (h : OwnEI w B A c l) (hb : B' ≤ B) : OwnEI w B' A c l := by
  obtain ⟨ms, h1, h2, h3⟩ := h
  exact ⟨ms, h1, rown_base h2 hb, fun m hm => (h3 m hm).base hb⟩
/-- A store into a block of another kind. -/
theorem OwnEI.other {w : World} {B c b k : Nat} {A : Option Addr} {l : List EI} {cs : Array Value} {T : TypeId} {fr : Nat × Nat} (h : OwnEI w B A c l) (hp : w.heap[b]? = some (.cells cs T fr)) (hT : T ≠ 3) (hT2 : T ≠ 41) (v : Value) : OwnEI (w.setCell ⟨b, k, none⟩ v) B A c l :=
  h.keep (KI.set hp hT v) fun g hg => Below.heap_setCell w ⟨b, k, none⟩ v g (fun e => by
    have e' : g = b := e
    subst e'
    rcases h.form with rfl | ⟨g', cur, rfl, _, hc⟩
    · cases hg
    · have e2 : g' = g := by simpa [blk] using hg
      subst e2
      rw [hp] at hc
      injection hc with hc
      injection hc with _ hc _
      exact hT2 hc)
theorem OwnEI.rd {w : World} {B c : Nat} {A : Option Addr} {l : List EI} (h : OwnEI w B A c l) : RdEI w w.heap.size A l := by
  obtain ⟨ms, h1, h2, h3⟩ := h
  by_cases hl : l = []
  · subst hl
    exact .inl rfl
  · obtain ⟨g, hA, hg, _, hc⟩ := trow_cell h2 (List.length_pos_iff.2 hl)
    refine .inr ⟨g, 0, hA, hg, fun i x hx => ?_⟩
    subst h1
    rw [List.getElem?_map, Option.map_eq_some_iff] at hx
    obtain ⟨m, hm, rfl⟩ := hx
    have key : ∀ j v, (eiC m)[j]? = some v → j < 5 → w.cell? ⟨g, 0 + i * 5 + j, none⟩ = some v := fun j v hv hj => by
      rw [Nat.zero_add]
      exact hc _ v ((tflat_nth eiC 5 (fun _ => rfl) ms i j m hm hj).trans hv)
    obtain ⟨A', c', e1, e2⟩ := (h3 m (List.mem_of_getElem? hm)).int
    exact ⟨key 0 _ rfl (by omega), key 1 _ rfl (by omega), key 2 _ rfl (by omega), ⟨A', c', by rw [← e1]; exact key 3 _ rfl (by omega), e2⟩, key 4 _ rfl (by omega)⟩
theorem eiI_info : (Tryz.prog.info? 41).map (fun i => (i.zero, i.size, i.bytes)) = some (some (.agg #[.int .i64 0, .string ⟨#[]⟩, .int .u64 0, .slice none 0 0, .int .i64 0]), 5, 64) := by kernel_rfl
/-- append of one. -/
theorem run_appEI {w : World} (ty : TypeId) (B : Nat) (A : Option Addr) (cap n : Nat) (l : List EI) (hn : n = l.length) (hown : OwnEI w B A cap l) (g2 : Nat) (m : EI × Value) (hb : w.heap[g2]? = some (.cells (eiC m).toArray 41 (0, 0))) (hargs : ArgI w B m.2 m.1.args)
    (hbytes : n ≤ 100000) (hbase : B ≤ w.heap.size) :
    ∃ A' cap' w', (Builtin.append_ #[27, 27] ty #[.slice A n cap, .slice (some ⟨g2, 0, none⟩) 1 1]).run Tryz.prog w = .ok (.slice A' (n + 1) cap') w' ∧ OwnEI w' B A' cap' (l ++ [m.1]) ∧ w.grownBy w' (blk A) ∧ (blk A' = blk A ∨ blk A' = some w.heap.size) ∧ KI w w' := by
  subst hn
  obtain ⟨ms, h1, h2, h3⟩ := hown
  obtain ⟨i0, hi0, hz0, hz1, hz2⟩ := info_parts eiI_info
  obtain ⟨A', cap', w', r1, r2, r3, r4⟩ := run_appN (P := Tryz.prog) w B 27 ty 41 i0 _ 5 64 Tryz.underlying27 hi0 hz0 hz1 (by decide) hz2 rfl A cap l.length (ms.flatMap eiC) h2 g2 (eiC m) rfl (fun j u hu => by
      rw [cell_of_row w g2 j _ _ (0, 0) hb]
      simpa using hu) (fun u hu => by
      unfold eiC at hu
      simp at hu
      rcases hu with rfl | rfl | rfl | rfl | rfl
      · rfl
      · rfl
      · rfl
      · exact hargs.one
      · rfl) (by simp only [maxLen]; omega) (by omega) hbase
  have hki : KI w w' := KI.grown (T := 41) r3 (by decide) (by
    rcases rown_form h2 with h | ⟨g, cur, e, _, hc⟩
    · exact .inl h
    · exact .inr ⟨g, cur, e, hc⟩)
  refine ⟨A', cap', w', r1, ⟨ms ++ [m], by rw [List.map_append, h1]; rfl, ?_, ?_⟩, r3, r4, hki⟩
  · rw [List.flatMap_append, List.length_append]
    simp only [List.flatMap_cons, List.flatMap_nil, List.append_nil]
    exact r2
  · intro y hy
    rcases List.mem_append.1 hy with hy | hy
    · exact (h3 y hy).keep hki
    · rw [List.mem_singleton.1 hy]
      exact hargs.keep hki
theorem appEI {w : World} {ops : Array Oper} {rest : List Oper} {o : Oper} {a : Act} {Q : Exit → Act → World → Prop} (hgd : o.guard = none) (s x : Operand)
    (ho : o.op = .call { callee := .builtin .append, args := #[s, x], argTypes := #[27, 27] }) (B : Nat)
    (A : Option Addr) (cap n : Nat) (l : List EI) (hn : n = l.length) (hs : a.eval s = .slice A n cap) (hown : OwnEI w B A cap l)
    (g2 : Nat) (hx : a.eval x = .slice (some ⟨g2, 0, none⟩) 1 1) (m : EI × Value) (hb : w.heap[g2]? = some (.cells (eiC m).toArray 41 (0, 0))) (hargs : ArgI w B m.2 m.1.args)
    (hbytes : n ≤ 100000) (hbase : B ≤ w.heap.size)
    (h : ∀ A' cap' w', OwnEI w' B A' cap' (l ++ [m.1]) → w.grownBy w' (blk A) → (blk A' = blk A ∨ blk A' = some w.heap.size) → KI w w' → wpList Tryz.prog ops Q rest (a.put o.dst (.slice A' (n + 1) cap')) w') :
    wpList Tryz.prog ops Q (o :: rest) a w := by
  obtain ⟨A', cap', w', hrun, h2, h3, h4, h5⟩ := run_appEI o.type B A cap n l hn hown g2 m hb hargs hbytes hbase
  refine wpList_plain hgd fun K hK => ?_
  unfold Oper.wp execOp
  simp only [ho, resolve, invoke, builtin, Sem.run_bind, Sem.run_pure, Result.andThen_ok, List.map_toArray, List.map_cons, List.map_nil, hs, hx, hrun]
  exact hK _ _ (h A' cap' w' h2 h3 h4 h5)
/-- A name is stored. -/
theorem OwnEI.name {w : World} {B c g k : Nat} {l : List EI} {x : EI} (h : OwnEI w B (some ⟨g, 0, none⟩) c l) (hk : l[k]? = some x) (nm : ByteArray) : OwnEI (w.setCell ⟨g, k * 5 + 1, none⟩ (.string nm)) B (some ⟨g, 0, none⟩) c (l.set k { x with name := nm }) := by
  obtain ⟨ms, h1, h2, h3⟩ := h
  subst h1
  rw [List.getElem?_map, Option.map_eq_some_iff] at hk
  obtain ⟨m, hm, rfl⟩ := hk
  have hlt := (List.getElem?_eq_some_iff.1 hm).1
  have hki : KI w (w.setCell ⟨g, k * 5 + 1, none⟩ (.string nm)) := by
    rcases rown_form h2 with e | ⟨g', cur, e, _, hc⟩
    · cases e
    · injection e with e
      injection e with e
      subst e
      exact KI.set hc (by decide) _
  refine ⟨ms.set k ({ m.1 with name := nm }, m.2), by rw [List.map_set], ?_, ?_⟩
  · rw [oflat_set eiC 5 (fun _ => rfl) ({ m.1 with name := nm }, m.2) (.string nm) ms k 1 m hm (by omega) rfl, List.length_set]
    exact rown_set h2 _ (by rw [List.length_map]; omega)
  · intro y hy
    rw [List.mem_iff_getElem?] at hy
    obtain ⟨i, hi⟩ := hy
    by_cases e : k = i
    · subst e
      rw [List.getElem?_set_self hlt] at hi
      injection hi with hi
      subst hi
      exact (h3 m (List.mem_of_getElem? hm)).keep hki
    · rw [List.getElem?_set_ne e] at hi
      exact (h3 y (List.mem_of_getElem? hi)).keep hki
end Go.Proofs.YthnkeejiocnflaaGreatDoor
namespace Go.Proofs.YthnkeejiocnflaaGreatDoor
set_option linter.unusedVariables false
set_option linter.unusedSimpArgs false
open Go.RowKit
def ownS1 (x : SI) : SI := { x with shape := x.shape.take 10 }
def ownE1 (x : EI) : EI := { x with args := x.args.take 5 }
def ownSs (ss : List SI) : List SI := (ss.take 100).map ownS1
def ownEs (es : List EI) : List EI := (es.take 600).map ownE1
theorem run_min_10 (w : World) (ts : Array TypeId) (t : TypeId) (a : Nat) : (Builtin.min_ ts t #[.int .i64 (a : Int), .int .i64 10]).run Tryz.prog w = .ok (.int .i64 (minN a 10 : Nat)) w := run_min_lit w ts t a 10
theorem run_min_5 (w : World) (ts : Array TypeId) (t : TypeId) (a : Nat) : (Builtin.min_ ts t #[.int .i64 (a : Int), .int .i64 5]).run Tryz.prog w = .ok (.int .i64 (minN a 5 : Nat)) w := run_min_lit w ts t a 5
attribute [local go_sem ↓] run_min_10 run_min_5
/-- What stands in memory beside the rows: the tree that came in, the tree in the making. -/
structure OwSt (w wr : World) (SA EA : Option Addr) (ns ne sc ec : Nat) (A : Option Addr) (n c : Nat) (E : Option Addr) (m d : Nat) : Prop where
  bel : Below w.heap.size w wr
  tb : wr.heap[w.heap.size]? = some (.cells #[.slice SA ns sc, .slice EA ne ec] 29 (0, 0))
  rb : wr.heap[w.heap.size + 1]? = some (.cells #[.slice none 0 0, .slice none 0 0] 29 (0, 0))
  ob : wr.heap[w.heap.size + 1 + 1]? = some (.cells #[.slice A n c, .slice E m d] 29 (0, 0))
theorem OwSt.t0 {w wr : World} {SA EA : Option Addr} {ns ne sc ec : Nat} {A : Option Addr} {n c : Nat} {E : Option Addr} {m d : Nat} (h : OwSt w wr SA EA ns ne sc ec A n c E m d) :
    wr.cell? ⟨w.heap.size, 0, none⟩ = some (.slice SA ns sc) ∧ wr.cell? ⟨w.heap.size, 1, none⟩ = some (.slice EA ne ec) ∧ wr.cell? ⟨w.heap.size + 1 + 1, 0, none⟩ = some (.slice A n c) ∧ wr.cell? ⟨w.heap.size + 1 + 1, 1, none⟩ = some (.slice E m d) ∧ w.heap.size + 1 + 1 < wr.heap.size :=
  ⟨cell_of_row _ _ 0 _ _ _ h.tb, cell_of_row _ _ 1 _ _ _ h.tb, cell_of_row _ _ 0 _ _ _ h.ob, cell_of_row _ _ 1 _ _ _ h.ob, (Array.getElem?_eq_some_iff.1 h.ob).1⟩
theorem owst_start (w : World) (SA EA : Option Addr) (ns ne sc ec : Nat) : OwSt w (((w.alloc (.cells #[.slice SA ns sc, .slice EA ne ec] 29)).alloc (.cells #[.slice none 0 0, .slice none 0 0] 29)).alloc (.cells #[.slice none 0 0, .slice none 0 0] 29)) SA EA ns ne sc ec none 0 0 none 0 0 := by
  refine ⟨(((Below.refl _ _).alloc (Nat.le_refl _) _).alloc (by simp) _).alloc (by simp; omega) _, ?_, ?_, ?_⟩
  · rw [Below.heap_alloc _ _ _ (by simp; omega), Below.heap_alloc _ _ _ (by simp)]
    exact heap_alloc_new w _
  · rw [Below.heap_alloc _ _ _ (by simp)]
    have := heap_alloc_new (w.alloc (.cells #[.slice SA ns sc, .slice EA ne ec] 29)) (.cells #[.slice none 0 0, .slice none 0 0] 29)
    rwa [World.size_alloc] at this
  · have := heap_alloc_new ((w.alloc (.cells #[.slice SA ns sc, .slice EA ne ec] 29)).alloc (.cells #[.slice none 0 0, .slice none 0 0] 29)) (.cells #[.slice none 0 0, .slice none 0 0] 29)
    rwa [World.size_alloc, World.size_alloc] at this
section
variable {w wr w' : World} {SA EA : Option Addr} {ns ne sc ec : Nat} {A : Option Addr} {n c : Nat} {E : Option Addr} {m d : Nat}
theorem OwSt.next (h : OwSt w wr SA EA ns ne sc ec A n c E m d) (hb : Below wr.heap.size wr w') : OwSt w w' SA EA ns ne sc ec A n c E m d :=
  ⟨bnext h.bel hb, (hb.block _ (Array.getElem?_eq_some_iff.1 h.tb).1).trans h.tb, (hb.block _ (Array.getElem?_eq_some_iff.1 h.rb).1).trans h.rb, (hb.block _ (Array.getElem?_eq_some_iff.1 h.ob).1).trans h.ob⟩
theorem OwSt.grown (h : OwSt w wr SA EA ns ne sc ec A n c E m d) {A' : Option Addr} {T : TypeId} (hg : wr.grownBy w' (blk A')) (hT : T ≠ 29) (hA : A' = none ∨ ∃ g cur, A' = some ⟨g, 0, none⟩ ∧ w.heap.size ≤ g ∧ wr.heap[g]? = some (.cells cur T (0, 0))) : OwSt w w' SA EA ns ne sc ec A n c E m d := by
  have key : ∀ (k : Nat) (cs : Array Value), wr.heap[k]? = some (.cells cs 29 (0, 0)) → w'.heap[k]? = some (.cells cs 29 (0, 0)) := fun k cs hk => by
    rw [hg.block k (Array.getElem?_eq_some_iff.1 hk).1 (fun e => by
      rcases hA with rfl | ⟨g, cur', rfl, _, hc⟩
      · simp [blk] at e
      · have e' : k = g := by simpa [blk] using e
        subst e'
        rw [hc] at hk
        injection hk with hk
        injection hk with _ hk _
        exact hT hk)]
    exact hk
  refine ⟨grown_below h.bel hg h.bel.size (fun k hk => ?_), key _ _ h.tb, key _ _ h.rb, key _ _ h.ob⟩
  rcases hA with rfl | ⟨g, cur', rfl, hb, hc⟩
  · cases hk
  · have e' : g = k := by simpa [blk] using hk
    omega
theorem OwSt.setS (h : OwSt w wr SA EA ns ne sc ec A n c E m d) (A' : Option Addr) (n' c' : Nat) : OwSt w (wr.setCell ⟨w.heap.size + 1 + 1, 0, none⟩ (.slice A' n' c')) SA EA ns ne sc ec A' n' c' E m d :=
  ⟨setCell_below h.bel (by omega) _, (Below.heap_setCell _ _ _ _ (by show w.heap.size ≠ w.heap.size + 1 + 1; omega)).trans h.tb, (Below.heap_setCell _ _ _ _ (by show w.heap.size + 1 ≠ w.heap.size + 1 + 1; omega)).trans h.rb, heap_setCell_same _ _ _ _ _ _ h.ob⟩
theorem OwSt.setE (h : OwSt w wr SA EA ns ne sc ec A n c E m d) (A' : Option Addr) (n' c' : Nat) : OwSt w (wr.setCell ⟨w.heap.size + 1 + 1, 1, none⟩ (.slice A' n' c')) SA EA ns ne sc ec A n c A' n' c' :=
  ⟨setCell_below h.bel (by omega) _, (Below.heap_setCell _ _ _ _ (by show w.heap.size ≠ w.heap.size + 1 + 1; omega)).trans h.tb, (Below.heap_setCell _ _ _ _ (by show w.heap.size + 1 ≠ w.heap.size + 1 + 1; omega)).trans h.rb, heap_setCell_same _ _ _ _ _ _ h.ob⟩
end
theorem mid_facts {wr w5 : World} {cs : Array Value} {T : TypeId} (g3 : ((wr.alloc (.cells cs T)).alloc (.cells #[] 3)).grownBy w5 (blk (some ⟨wr.heap.size + 1, 0, none⟩))) : Below wr.heap.size wr w5 ∧ w5.heap[wr.heap.size]? = some (.cells cs T (0, 0)) := by
  have b : Below (wr.heap.size + 1) (wr.alloc (.cells cs T)) w5 := grown_below ((Below.refl (wr.heap.size + 1) (wr.alloc (.cells cs T))).alloc (by simp) (.cells #[] 3)) g3 (by simp) (fun k hk => by cases hk; exact Nat.le_refl _)
  exact ⟨((Below.refl _ _).alloc (Nat.le_refl _) _).trans (b.mono (Nat.le_succ _)), (b.block _ (Nat.lt_succ_self _)).trans (heap_alloc_new wr _)⟩
/-- Ahead of the append to the row. -/
theorem own_pre {w wr w5 : World} {A3 : Option Addr} {k3 kk M : Nat} {l : List Int} {cs : Array Value} {T : TypeId} (hb5 : Below wr.heap.size wr w5) (hw : w.heap.size ≤ wr.heap.size) (h3 : Own w5 w.heap.size 3 A3 k3 (l.map VI)) (h5 : w5.heap[wr.heap.size]? = some (.cells cs T (0, 0))) (hT : T ≠ 3) (hl : l.length = M) (v : Value) (O : Obj) :
    Below wr.heap.size wr ((w5.setCell ⟨wr.heap.size, kk, none⟩ v).alloc O) ∧ ((w5.setCell ⟨wr.heap.size, kk, none⟩ v).alloc O).heap[w5.heap.size]? = some O ∧ ArgI ((w5.setCell ⟨wr.heap.size, kk, none⟩ v).alloc O) w.heap.size (.slice A3 M k3) l ∧ w.heap.size ≤ ((w5.setCell ⟨wr.heap.size, kk, none⟩ v).alloc O).heap.size := by
  have hz : (w5.setCell ⟨wr.heap.size, kk, none⟩ v).heap.size = w5.heap.size := by simp [World.setCell]
  have hb : Below wr.heap.size wr ((w5.setCell ⟨wr.heap.size, kk, none⟩ v).alloc O) := (setCell_below hb5 (Nat.le_refl _) v).alloc (by rw [hz]; exact hb5.size) O
  refine ⟨hb, ?_, ⟨A3, k3, by rw [hl], ?_⟩, Nat.le_trans hw hb.size⟩
  · have := heap_alloc_new (w5.setCell ⟨wr.heap.size, kk, none⟩ v) O
    rwa [hz] at this
  · exact owni_keep h3 ((KI.set h5 hT v).trans (KI.below ((Below.refl _ _).alloc (Nat.le_refl _) O)))
theorem take_min {l : List Int} {n M k : Nat} (hn : n = l.length) (h : M ≤ n ∧ M ≤ k ∧ (M = n ∨ M = k)) : l.take M = l.take k := by
  rcases h.2.2 with h | h
  · rw [List.take_of_length_le (by omega), List.take_of_length_le (by omega)]
  · rw [h]
theorem take_cut {α : Type} {l : List α} {n i k : Nat} (hn : n = l.length) (h : n ≤ i ∧ i ≤ k ∨ i = k) : l.take i = l.take k := by
  rcases h with h | h
  · rw [List.take_of_length_le (by omega), List.take_of_length_le (by omega)]
  · rw [h]
theorem OwnSI.grown {w8 w9 : World} {B c : Nat} {A E : Option Addr} {l : List SI} {T : TypeId} (h : OwnSI w8 B A c l) (g : w8.grownBy w9 (blk E)) (ki : KI w8 w9) (hE : E = none ∨ ∃ g cur, E = some ⟨g, 0, none⟩ ∧ B ≤ g ∧ w8.heap[g]? = some (.cells cur T (0, 0))) (hT : T ≠ 46) : OwnSI w9 B A c l :=
  h.keep ki fun k hk => g.block k (h.lt k hk).2 (fun e => by
    rcases h.form with rfl | ⟨g', cur, rfl, _, hc⟩
    · cases hk
    · have e2 : g' = k := by simpa [blk] using hk
      subst e2
      rcases hE with rfl | ⟨g2, cur2, rfl, _, hc2⟩
      · simp [blk] at e
      · have e3 : g' = g2 := by simpa [blk] using e
        subst e3
        rw [hc2] at hc
        injection hc with hc
        injection hc with _ hc _
        exact hT hc)
theorem take_map_succ {α β : Type} (f : α → β) {l : List α} {i : Nat} {x : α} (h : l[i]? = some x) : (l.take (i + 1)).map f = (l.take i).map f ++ [f x] := by
  rw [List.take_add_one, h, List.map_append]
  rfl
theorem appVn {w : World} {ops : Array Oper} {rest : List Oper} {o : Oper} {a : Act} {Q : Exit → Act → World → Prop} (hgd : o.guard = none) (s x : Operand)
    (ho : o.op = .call { callee := .builtin .append, args := #[s, x], argTypes := #[22, 22] }) (base : Nat)
    (A : Option Addr) (cap : Nat) (hs : a.eval s = .slice A 0 cap) (hown : Own w base 3 A cap [])
    (A2 : Option Addr) (m c B : Nat) (news : List Int) (hm : news.length = m) (hx : a.eval x = .slice A2 m c) (hr : Rd w B A2 (news.map VI)) (hnil : A2 = none → m = 0)
    (hbytes : m ≤ 26388279066624) (hbase : base ≤ w.heap.size)
    (h : ∀ A' cap' w', Own w' base 3 A' cap' (news.map VI) → w.grownBy w' (blk A) → (blk A' = blk A ∨ blk A' = some w.heap.size) → wpList Tryz.prog ops Q rest (a.put o.dst (.slice A' m cap')) w') :
    wpList Tryz.prog ops Q (o :: rest) a w := by
  refine appV hgd s x ho base A cap [] 0 rfl hs hown A2 m c B news hm hx hr hnil (by omega) hbase ?_
  intro A' cap' w' h1 h2 h3
  rw [Nat.zero_add]
  exact h A' cap' w' h1 h2 h3
set_option maxRecDepth 100000 in
set_option maxHeartbeats 4000000 in
theorem own_any (SA EA : Option Addr) (ns ne sc ec : Nat) (ss : List SI) (es : List EI) (w : World) (hns : ns = ss.length) (hne : ne = es.length) (hl1 : ns ≤ 9223372036854775807) (hl2 : ne ≤ 9223372036854775807)
    (h1 : RdSI w w.heap.size SA ss) (h3 : RdEI w w.heap.size EA es) :
    Calls Tryz.prog 15 #[.agg #[.slice SA ns sc, .slice EA ne ec]] w fun e w' => Below w.heap.size w w' ∧ ∃ SA' sc' EA' ec', e = .returned (.agg #[.slice SA' (ownSs ss).length sc', .slice EA' (ownEs es).length ec']) ∧
      OwnSI w' w.heap.size SA' sc' (ownSs ss) ∧ OwnEI w' w.heap.size EA' ec' (ownEs es) := by
  have HNS := Lib.hid hns
  have HNE := Lib.hid hne
  have H1 := Lib.hid h1
  have H3 := Lib.hid h3
  clear hns hne h1 h3
  go_enter Tryz.func15, Tryz.ntmps15
  go_wp2_with fail
  obtain ⟨w3, hw3⟩ : ∃ w3, w3 = ((w.alloc (.cells #[.slice SA ns sc, .slice EA ne ec] 29)).alloc (.cells #[.slice none 0 0, .slice none 0 0] 29)).alloc (.cells #[.slice none 0 0, .slice none 0 0] 29) := ⟨_, rfl⟩
  rw [← hw3]
  have hst : OwSt w w3 SA EA ns ne sc ec none 0 0 none 0 0 := by rw [hw3]; exact owst_start _ _ _ _ _ _ _
  have HST := Lib.hid hst
  clear hst
  go_loopw [4] (fun iv wr => ∃ (i : Nat) (A : Option Addr) (c : Nat), i ≤ ns ∧ i ≤ 100 ∧ iv = .int .i64 i ∧ OwSt w wr SA EA ns ne sc ec A i c none 0 0 ∧ OwnSI wr w.heap.size A c ((ss.take i).map ownS1)) (fun iv _ => 100 - (intOf iv).toNat)
  case atStart => exact ⟨0, none, 0, by omega, by omega, rfl, HST.out, OwnSI.nil _ _⟩
  case round =>
    obtain ⟨i, A, c, hi, hi2, rfl, hS, hO⟩ := hrel
    have hHB := hS.bel
    have HS := Lib.hid hS
    have HO := Lib.hid hO
    have k0 := hS.t0
    clear hS hO
    by_cases hlt : i < ns
    · have q1 : decide ((i : Int) < (ns : Int)) = true := by simp; omega
      by_cases hlt2 : i < 100
      · have q2 : decide ((i : Int) < 100) = true := by simp; omega
        have ht : ss[i]? = some (ss[i]'(by rw [← HNS.out]; exact hlt)) := List.getElem?_eq_getElem _
        obtain ⟨x, hx⟩ : ∃ x, x = ss[i]'(by rw [← HNS.out]; exact hlt) := ⟨_, rfl⟩
        rw [← hx] at ht
        obtain ⟨b, o, rfl, hbl, hat⟩ := (H1.out.below hHB).at_ ht
        obtain ⟨c0, c1, c2, ⟨Ax, cx, c3, hrd, hcap⟩, c4, c5⟩ := hat
        obtain ⟨nx, hnx⟩ : ∃ nx, nx = x.shape.length := ⟨_, rfl⟩
        rw [← hnx] at c3 hcap
        have HR := Lib.hid hrd
        have HX := Lib.hid ht
        have HNX := Lib.hid hnx
        have i0 : (0 : Int) ≤ (i : Int) := by omega
        have i1 : (i : Int) < (ns : Int) := by omega
        clear hrd hnx ht hx hHB
        obtain ⟨M, hM⟩ : ∃ M, M = minN nx 10 := ⟨_, rfl⟩
        have hMl := minN_le nx 10
        rw [← hM] at hMl
        have hm := hM.symm
        have hM2 : M ≤ cx := by omega
        have hM3 : M ≤ 10 := by omega
        have f1 : ∀ W, (Instr.sliceAt 22 (.slice Ax nx cx) none (some (.int .i64 (M : Int))) none).run Tryz.prog W = .ok (.slice (cutA Ax 0 1 cx) M cx) W := fun W => run_cutAt_to (P := Tryz.prog) Tryz.underlying22 (fun W => by kernel_rfl) Ax hM2 W
        have HML := Lib.hid hMl
        have HR1 := Lib.hid (show Rd wr w.heap.size (cutA Ax 0 1 cx) ((x.shape.take M).map VI) from by
          have h := (HR.out.cut (k := 0) (c := cx) (by rw [List.length_map, ← HNX.out]; omega)).take M
          rw [List.drop_zero, ← List.map_take] at h
          exact h)
        have HLN := Lib.hid (show (x.shape.take M).length = M from by rw [List.length_take, ← HNX.out]; omega)
        have HNL := Lib.hid (show cutA Ax 0 1 cx = none → M = 0 from fun e => by rw [← HLN.out]; exact rd_nil_len HR1.out e)
        have HBW := Lib.hid HS.out.bel.size
        have HLI := Lib.hid (show i = ((ss.take i).map ownS1).length from by rw [List.length_map, List.length_take, ← HNS.out]; omega)
        clear hMl hM
        go_wp2_with (first
          | (at_builtin; (refine appVn rfl (.tmp 25) (.tmp 32) rfl w.heap.size (some ⟨wr.heap.size + 1, 0, none⟩) 0 rfl (by have h := Own.made (base := w.heap.size) (wr.alloc (.cells #[.int .i64 x.kind, .int .i64 x.party, .string x.name, .slice Ax nx cx, .int .i64 x.expr, .int .i64 x.pos] 46)) 3 (by rw [World.size_alloc]; have := HBW.out; omega); rwa [World.size_alloc] at h) (cutA Ax 0 1 cx) M cx w.heap.size (x.shape.take M) HLN.out rfl ((HR1.out.alloc HBW.out _).alloc (by rw [World.size_alloc]; have := HBW.out; omega) _) HNL.out (by omega) (by simp only [World.size_alloc]; have := HBW.out; omega) ?_); intro A3 k3 w5 o3 g3 h3; obtain ⟨b5, s5⟩ := mid_facts g3; have HS5 := Lib.hid (HS.out.next b5); have HO5 := Lib.hid (HO.out.next b5); have HB5 := Lib.hid b5; have H35 := Lib.hid o3; have H55 := Lib.hid s5; have d0 := cell_of_row _ _ 0 _ _ _ s5; have d1 := cell_of_row _ _ 1 _ _ _ s5; have d2 := cell_of_row _ _ 2 _ _ _ s5; have d3 := cell_of_row _ _ 3 _ _ _ s5; have d4 := cell_of_row _ _ 4 _ _ _ s5; have d5 := cell_of_row _ _ 5 _ _ _ s5; have e0 : ∀ v, (w5.setCell ⟨wr.heap.size, 3, none⟩ v).cell? ⟨w.heap.size + 1 + 1, 0, none⟩ = some (.slice A i c) := (fun v => (World.cell?_of_block (Below.heap_setCell _ _ _ _ (by have := HS.out.t0.2.2.2.2; show w.heap.size + 1 + 1 ≠ wr.heap.size; omega))).trans HS5.out.t0.2.2.1); have fz5 : ∀ k, w5.frozen? ⟨wr.heap.size, k, none⟩ = false := (fun k => by simp [World.frozen?, s5]); clear o3 g3 h3 b5 s5 k0)
          | (at_builtin; have P := own_pre (kk := 3) HB5.out HBW.out H35.out H55.out (by decide) HLN.out (.slice A3 M k3) (.cells #[.int .i64 x.kind, .int .i64 x.party, .string x.name, .slice A3 M k3, .int .i64 x.expr, .int .i64 x.pos] 46); have O8 := HO.out.next P.1; (refine appSI rfl (.tmp 36) (.tmp 38) rfl w.heap.size A c i ((ss.take i).map ownS1) HLI.out rfl O8 w5.heap.size rfl ({ x with shape := x.shape.take M }, .slice A3 M k3) P.2.1 P.2.2.1 (by omega) P.2.2.2 ?_); intro A9 c9 w9 hO9 g9 h9 ki9; have S9 := (HS.out.next P.1).grown g9 (by decide) O8.form; have HS9 := Lib.hid S9; have HO9 := Lib.hid hO9; have e9 := S9.t0.2.2.1; have fz9 : w9.frozen? ⟨w.heap.size + 1 + 1, 0, none⟩ = false := (by simp [World.frozen?, S9.ob]); clear P O8 hO9 g9 h9 ki9 S9))
        refine ⟨⟨i + 1, A9, c9, by omega, by omega, rfl, HS9.out.setS A9 (i + 1) c9, ?_⟩, by simp [intOf]; omega⟩
        rw [take_map_succ ownS1 HX.out, show ownS1 x = { x with shape := x.shape.take M } from by unfold ownS1; rw [take_min HNX.out HML.out]]
        exact HO9.out.other HS9.out.ob (by decide) (by decide) _
      · -- first
        have q2 : decide ((i : Int) < 100) = false := by simp; omega
        have HN4 := Lib.hid (show (ss.take i).map ownS1 = ownSs ss from by unfold ownSs; rw [take_cut (i := i) (k := 100) HNS.out (.inr (by omega))])
        obtain ⟨N, hN⟩ : ∃ N, N = i := ⟨_, rfl⟩
        have HLS := Lib.hid (show N = (ownSs ss).length from by rw [← HN4.out, List.length_map, List.length_take, ← HNS.out]; omega)
        have HOS := Lib.hid (HN4.out ▸ HO.out)
        rw [← hN] at HS k0
        have hi3 : N ≤ 100 := by omega
        obtain ⟨A0, hA0⟩ : ∃ A0, A0 = A := ⟨_, rfl⟩
        obtain ⟨c0, hc0⟩ : ∃ c0, c0 = c := ⟨_, rfl⟩
        rw [← hA0, ← hc0] at HS HOS k0
        go_wp2_with fail
        clear hN hA0 hc0 HO HN4 HST q1 q2
        go_loopw [6] (fun iv wr => ∃ (i : Nat) (A : Option Addr) (c : Nat), i ≤ ne ∧ i ≤ 600 ∧ iv = .int .i64 i ∧ OwSt w wr SA EA ns ne sc ec A0 N c0 A i c ∧ OwnEI wr w.heap.size A c ((es.take i).map ownE1) ∧ OwnSI wr w.heap.size A0 c0 (ownSs ss)) (fun iv _ => 600 - (intOf iv).toNat)
        case atStart => exact ⟨0, none, 0, by omega, by omega, rfl, HS.out, OwnEI.nil _ _, HOS.out⟩
        case round =>
          obtain ⟨i, A, c, hi, hi2, rfl, hS, hO, hOS2⟩ := hrel
          have HOS2 := Lib.hid hOS2
          have hHB := hS.bel
          have HS := Lib.hid hS
          have HO := Lib.hid hO
          have k0 := hS.t0
          clear hS hO hOS2
          by_cases hlt : i < ne
          · have q1 : decide ((i : Int) < (ne : Int)) = true := by simp; omega
            by_cases hlt2 : i < 600
            · have q2 : decide ((i : Int) < 600) = true := by simp; omega
              have ht : es[i]? = some (es[i]'(by rw [← HNE.out]; exact hlt)) := List.getElem?_eq_getElem _
              obtain ⟨x, hx⟩ : ∃ x, x = es[i]'(by rw [← HNE.out]; exact hlt) := ⟨_, rfl⟩
              rw [← hx] at ht
              obtain ⟨b, o, rfl, hbl, hat⟩ := (H3.out.below hHB).at_ ht
              obtain ⟨c0, c1, c2, ⟨Ax, cx, c3, hrd, hcap⟩, c4⟩ := hat
              obtain ⟨nx, hnx⟩ : ∃ nx, nx = x.args.length := ⟨_, rfl⟩
              rw [← hnx] at c3 hcap
              have HR := Lib.hid hrd
              have HX := Lib.hid ht
              have HNX := Lib.hid hnx
              have i0 : (0 : Int) ≤ (i : Int) := by omega
              have i1 : (i : Int) < (ne : Int) := by omega
              clear hrd hnx ht hx hHB
              obtain ⟨M, hM⟩ : ∃ M, M = minN nx 5 := ⟨_, rfl⟩
              have hMl := minN_le nx 5
              rw [← hM] at hMl
              have hm := hM.symm
              have hM2 : M ≤ cx := by omega
              have hM3 : M ≤ 5 := by omega
              have f1 : ∀ W, (Instr.sliceAt 22 (.slice Ax nx cx) none (some (.int .i64 (M : Int))) none).run Tryz.prog W = .ok (.slice (cutA Ax 0 1 cx) M cx) W := fun W => run_cutAt_to (P := Tryz.prog) Tryz.underlying22 (fun W => by kernel_rfl) Ax hM2 W
              have HML := Lib.hid hMl
              have HR1 := Lib.hid (show Rd wr w.heap.size (cutA Ax 0 1 cx) ((x.args.take M).map VI) from by
                have h := (HR.out.cut (k := 0) (c := cx) (by rw [List.length_map, ← HNX.out]; omega)).take M
                rw [List.drop_zero, ← List.map_take] at h
                exact h)
              have HLN := Lib.hid (show (x.args.take M).length = M from by rw [List.length_take, ← HNX.out]; omega)
              have HNL := Lib.hid (show cutA Ax 0 1 cx = none → M = 0 from fun e => by rw [← HLN.out]; exact rd_nil_len HR1.out e)
              have HBW := Lib.hid HS.out.bel.size
              have HLI := Lib.hid (show i = ((es.take i).map ownE1).length from by rw [List.length_map, List.length_take, ← HNE.out]; omega)
              clear hMl hM
              go_wp2_with (first
                | (at_builtin; (refine appVn rfl (.tmp 57) (.tmp 64) rfl w.heap.size (some ⟨wr.heap.size + 1, 0, none⟩) 0 rfl (by have h := Own.made (base := w.heap.size) (wr.alloc (.cells #[.int .i64 x.kind, .string x.name, .int .u64 x.num, .slice Ax nx cx, .int .i64 x.pos] 41)) 3 (by rw [World.size_alloc]; have := HBW.out; omega); rwa [World.size_alloc] at h) (cutA Ax 0 1 cx) M cx w.heap.size (x.args.take M) HLN.out rfl ((HR1.out.alloc HBW.out _).alloc (by rw [World.size_alloc]; have := HBW.out; omega) _) HNL.out (by omega) (by simp only [World.size_alloc]; have := HBW.out; omega) ?_); intro A3 k3 w5 o3 g3 h3; obtain ⟨b5, s5⟩ := mid_facts g3; have HS5 := Lib.hid (HS.out.next b5); have HO5 := Lib.hid (HO.out.next b5); have HB5 := Lib.hid b5; have H35 := Lib.hid o3; have H55 := Lib.hid s5; have d0 := cell_of_row _ _ 0 _ _ _ s5; have d1 := cell_of_row _ _ 1 _ _ _ s5; have d2 := cell_of_row _ _ 2 _ _ _ s5; have d3 := cell_of_row _ _ 3 _ _ _ s5; have d4 := cell_of_row _ _ 4 _ _ _ s5; have e0 : ∀ v, (w5.setCell ⟨wr.heap.size, 3, none⟩ v).cell? ⟨w.heap.size + 1 + 1, 1, none⟩ = some (.slice A i c) := (fun v => (World.cell?_of_block (Below.heap_setCell _ _ _ _ (by have := HS.out.t0.2.2.2.2; show w.heap.size + 1 + 1 ≠ wr.heap.size; omega))).trans HS5.out.t0.2.2.2.1); have fz5 : ∀ k, w5.frozen? ⟨wr.heap.size, k, none⟩ = false := (fun k => by simp [World.frozen?, s5]); clear o3 g3 h3 b5 s5 k0)
                | (at_builtin; have P := own_pre (kk := 3) HB5.out HBW.out H35.out H55.out (by decide) HLN.out (.slice A3 M k3) (.cells #[.int .i64 x.kind, .string x.name, .int .u64 x.num, .slice A3 M k3, .int .i64 x.pos] 41); have O8 := HO.out.next P.1; (refine appEI rfl (.tmp 68) (.tmp 70) rfl w.heap.size A c i ((es.take i).map ownE1) HLI.out rfl O8 w5.heap.size rfl ({ x with args := x.args.take M }, .slice A3 M k3) P.2.1 P.2.2.1 (by omega) P.2.2.2 ?_); intro A9 c9 w9 hO9 g9 h9 ki9; have S9 := (HS.out.next P.1).grown g9 (by decide) O8.form; have HS9 := Lib.hid S9; have HO9 := Lib.hid hO9; have HOS9 := Lib.hid ((HOS2.out.next P.1).grown g9 ki9 O8.form (by decide)); have e9 := S9.t0.2.2.2.1; have fz9 : w9.frozen? ⟨w.heap.size + 1 + 1, 1, none⟩ = false := (by simp [World.frozen?, S9.ob]); clear P O8 hO9 g9 h9 ki9 S9))
              refine ⟨⟨i + 1, A9, c9, by omega, by omega, rfl, HS9.out.setE A9 (i + 1) c9, ?_, HOS9.out.other HS9.out.ob (by decide) (by decide) _⟩, by simp [intOf]; omega⟩
              rw [take_map_succ ownE1 HX.out, show ownE1 x = { x with args := x.args.take M } from by unfold ownE1; rw [take_min HNX.out HML.out]]
              exact HO9.out.other HS9.out.ob (by decide) (by decide) _
            · -- second
              have q2 : decide ((i : Int) < 600) = false := by simp; omega
              have HN5 := Lib.hid (show (es.take i).map ownE1 = ownEs es from by unfold ownEs; rw [take_cut (i := i) (k := 600) HNE.out (.inr (by omega))])
              have HLE := Lib.hid (show i = (ownEs es).length from by rw [← HN5.out, List.length_map, List.length_take, ← HNE.out]; omega)
              have HO5 := Lib.hid (HN5.out ▸ HO.out)
              have r0 := HS.out.t0.2.2.1
              have r1 := HS.out.t0.2.2.2.1
              have x0 := cell_of_row _ _ 0 _ _ _ HS.out.rb
              have x1 := cell_of_row _ _ 1 _ _ _ HS.out.rb
              have fz : ∀ k, wr.frozen? ⟨w.heap.size + 1, k, none⟩ = false := fun k => by simp [World.frozen?, HS.out.rb]
              clear hHB
              go_wp2
              have hs1 : (wr.setCell ⟨w.heap.size + 1, 0, none⟩ (.slice A0 N c0)).heap[w.heap.size + 1]? = some (.cells #[.slice A0 N c0, .slice none 0 0] 29 (0, 0)) := heap_setCell_same _ _ _ _ _ _ HS.out.rb
              have hs2 : ((wr.setCell ⟨w.heap.size + 1, 0, none⟩ (.slice A0 N c0)).setCell ⟨w.heap.size + 1, 1, none⟩ (.slice A i c)).heap[w.heap.size + 1]? = some (.cells #[.slice A0 N c0, .slice A i c] 29 (0, 0)) := heap_setCell_same _ _ _ _ _ _ hs1
              have z0 := cell_of_row _ _ 0 _ _ _ hs2
              have z1 := cell_of_row _ _ 1 _ _ _ hs2
              refine bodyPost_ret (v := .agg #[.slice A0 N c0, .slice A i c]) (by simp [results, Tryz.results15, go_sem, z0, z1]) rfl ⟨setCell_below (setCell_below HS.out.bel (Nat.le_succ _) _) (Nat.le_succ _) _, A0, c0, A, c, by rw [← HLS.out, ← HLE.out], ?_, ?_⟩
              · exact (HOS2.out.other HS.out.rb (by decide) (by decide) _).other hs1 (by decide) (by decide) _
              · exact (HO5.out.other HS.out.rb (by decide) (by decide) _).other hs1 (by decide) (by decide) _
          · -- third
            have q1 : decide ((i : Int) < (ne : Int)) = false := by simp; omega
            have HN5 := Lib.hid (show (es.take i).map ownE1 = ownEs es from by unfold ownEs; rw [take_cut (i := i) (k := 600) HNE.out (.inl (by omega))])
            have HLE := Lib.hid (show i = (ownEs es).length from by rw [← HN5.out, List.length_map, List.length_take, ← HNE.out]; omega)
            have HO5 := Lib.hid (HN5.out ▸ HO.out)
            have r0 := HS.out.t0.2.2.1
            have r1 := HS.out.t0.2.2.2.1
            have x0 := cell_of_row _ _ 0 _ _ _ HS.out.rb
            have x1 := cell_of_row _ _ 1 _ _ _ HS.out.rb
            have fz : ∀ k, wr.frozen? ⟨w.heap.size + 1, k, none⟩ = false := fun k => by simp [World.frozen?, HS.out.rb]
            clear hHB
            go_wp2
            have hs1 : (wr.setCell ⟨w.heap.size + 1, 0, none⟩ (.slice A0 N c0)).heap[w.heap.size + 1]? = some (.cells #[.slice A0 N c0, .slice none 0 0] 29 (0, 0)) := heap_setCell_same _ _ _ _ _ _ HS.out.rb
            have hs2 : ((wr.setCell ⟨w.heap.size + 1, 0, none⟩ (.slice A0 N c0)).setCell ⟨w.heap.size + 1, 1, none⟩ (.slice A i c)).heap[w.heap.size + 1]? = some (.cells #[.slice A0 N c0, .slice A i c] 29 (0, 0)) := heap_setCell_same _ _ _ _ _ _ hs1
            have z0 := cell_of_row _ _ 0 _ _ _ hs2
            have z1 := cell_of_row _ _ 1 _ _ _ hs2
            refine bodyPost_ret (v := .agg #[.slice A0 N c0, .slice A i c]) (by simp [results, Tryz.results15, go_sem, z0, z1]) rfl ⟨setCell_below (setCell_below HS.out.bel (Nat.le_succ _) _) (Nat.le_succ _) _, A0, c0, A, c, by rw [← HLS.out, ← HLE.out], ?_, ?_⟩
            · exact (HOS2.out.other HS.out.rb (by decide) (by decide) _).other hs1 (by decide) (by decide) _
            · exact (HO5.out.other HS.out.rb (by decide) (by decide) _).other hs1 (by decide) (by decide) _
    · -- first
      have q1 : decide ((i : Int) < (ns : Int)) = false := by simp; omega
      have HN4 := Lib.hid (show (ss.take i).map ownS1 = ownSs ss from by unfold ownSs; rw [take_cut (i := i) (k := 100) HNS.out (.inl (by omega))])
      obtain ⟨N, hN⟩ : ∃ N, N = i := ⟨_, rfl⟩
      have HLS := Lib.hid (show N = (ownSs ss).length from by rw [← HN4.out, List.length_map, List.length_take, ← HNS.out]; omega)
      have HOS := Lib.hid (HN4.out ▸ HO.out)
      rw [← hN] at HS k0
      have hi3 : N ≤ 100 := by omega
      obtain ⟨A0, hA0⟩ : ∃ A0, A0 = A := ⟨_, rfl⟩
      obtain ⟨c0, hc0⟩ : ∃ c0, c0 = c := ⟨_, rfl⟩
      rw [← hA0, ← hc0] at HS HOS k0
      go_wp2_with fail
      clear hN hA0 hc0 HO HN4 HST q1
      go_loopw [6] (fun iv wr => ∃ (i : Nat) (A : Option Addr) (c : Nat), i ≤ ne ∧ i ≤ 600 ∧ iv = .int .i64 i ∧ OwSt w wr SA EA ns ne sc ec A0 N c0 A i c ∧ OwnEI wr w.heap.size A c ((es.take i).map ownE1) ∧ OwnSI wr w.heap.size A0 c0 (ownSs ss)) (fun iv _ => 600 - (intOf iv).toNat)
      case atStart => exact ⟨0, none, 0, by omega, by omega, rfl, HS.out, OwnEI.nil _ _, HOS.out⟩
      case round =>
        obtain ⟨i, A, c, hi, hi2, rfl, hS, hO, hOS2⟩ := hrel
        have HOS2 := Lib.hid hOS2
        have hHB := hS.bel
        have HS := Lib.hid hS
        have HO := Lib.hid hO
        have k0 := hS.t0
        clear hS hO hOS2
        by_cases hlt : i < ne
        · have q1 : decide ((i : Int) < (ne : Int)) = true := by simp; omega
          by_cases hlt2 : i < 600
          · have q2 : decide ((i : Int) < 600) = true := by simp; omega
            have ht : es[i]? = some (es[i]'(by rw [← HNE.out]; exact hlt)) := List.getElem?_eq_getElem _
            obtain ⟨x, hx⟩ : ∃ x, x = es[i]'(by rw [← HNE.out]; exact hlt) := ⟨_, rfl⟩
            rw [← hx] at ht
            obtain ⟨b, o, rfl, hbl, hat⟩ := (H3.out.below hHB).at_ ht
            obtain ⟨c0, c1, c2, ⟨Ax, cx, c3, hrd, hcap⟩, c4⟩ := hat
            obtain ⟨nx, hnx⟩ : ∃ nx, nx = x.args.length := ⟨_, rfl⟩
            rw [← hnx] at c3 hcap
            have HR := Lib.hid hrd
            have HX := Lib.hid ht
            have HNX := Lib.hid hnx
            have i0 : (0 : Int) ≤ (i : Int) := by omega
            have i1 : (i : Int) < (ne : Int) := by omega
            clear hrd hnx ht hx hHB
            obtain ⟨M, hM⟩ : ∃ M, M = minN nx 5 := ⟨_, rfl⟩
            have hMl := minN_le nx 5
            rw [← hM] at hMl
            have hm := hM.symm
            have hM2 : M ≤ cx := by omega
            have hM3 : M ≤ 5 := by omega
            have f1 : ∀ W, (Instr.sliceAt 22 (.slice Ax nx cx) none (some (.int .i64 (M : Int))) none).run Tryz.prog W = .ok (.slice (cutA Ax 0 1 cx) M cx) W := fun W => run_cutAt_to (P := Tryz.prog) Tryz.underlying22 (fun W => by kernel_rfl) Ax hM2 W
            have HML := Lib.hid hMl
            have HR1 := Lib.hid (show Rd wr w.heap.size (cutA Ax 0 1 cx) ((x.args.take M).map VI) from by
              have h := (HR.out.cut (k := 0) (c := cx) (by rw [List.length_map, ← HNX.out]; omega)).take M
              rw [List.drop_zero, ← List.map_take] at h
              exact h)
            have HLN := Lib.hid (show (x.args.take M).length = M from by rw [List.length_take, ← HNX.out]; omega)
            have HNL := Lib.hid (show cutA Ax 0 1 cx = none → M = 0 from fun e => by rw [← HLN.out]; exact rd_nil_len HR1.out e)
            have HBW := Lib.hid HS.out.bel.size
            have HLI := Lib.hid (show i = ((es.take i).map ownE1).length from by rw [List.length_map, List.length_take, ← HNE.out]; omega)
            clear hMl hM
            go_wp2_with (first
              | (at_builtin; (refine appVn rfl (.tmp 57) (.tmp 64) rfl w.heap.size (some ⟨wr.heap.size + 1, 0, none⟩) 0 rfl (by have h := Own.made (base := w.heap.size) (wr.alloc (.cells #[.int .i64 x.kind, .string x.name, .int .u64 x.num, .slice Ax nx cx, .int .i64 x.pos] 41)) 3 (by rw [World.size_alloc]; have := HBW.out; omega); rwa [World.size_alloc] at h) (cutA Ax 0 1 cx) M cx w.heap.size (x.args.take M) HLN.out rfl ((HR1.out.alloc HBW.out _).alloc (by rw [World.size_alloc]; have := HBW.out; omega) _) HNL.out (by omega) (by simp only [World.size_alloc]; have := HBW.out; omega) ?_); intro A3 k3 w5 o3 g3 h3; obtain ⟨b5, s5⟩ := mid_facts g3; have HS5 := Lib.hid (HS.out.next b5); have HO5 := Lib.hid (HO.out.next b5); have HB5 := Lib.hid b5; have H35 := Lib.hid o3; have H55 := Lib.hid s5; have d0 := cell_of_row _ _ 0 _ _ _ s5; have d1 := cell_of_row _ _ 1 _ _ _ s5; have d2 := cell_of_row _ _ 2 _ _ _ s5; have d3 := cell_of_row _ _ 3 _ _ _ s5; have d4 := cell_of_row _ _ 4 _ _ _ s5; have e0 : ∀ v, (w5.setCell ⟨wr.heap.size, 3, none⟩ v).cell? ⟨w.heap.size + 1 + 1, 1, none⟩ = some (.slice A i c) := (fun v => (World.cell?_of_block (Below.heap_setCell _ _ _ _ (by have := HS.out.t0.2.2.2.2; show w.heap.size + 1 + 1 ≠ wr.heap.size; omega))).trans HS5.out.t0.2.2.2.1); have fz5 : ∀ k, w5.frozen? ⟨wr.heap.size, k, none⟩ = false := (fun k => by simp [World.frozen?, s5]); clear o3 g3 h3 b5 s5 k0)
              | (at_builtin; have P := own_pre (kk := 3) HB5.out HBW.out H35.out H55.out (by decide) HLN.out (.slice A3 M k3) (.cells #[.int .i64 x.kind, .string x.name, .int .u64 x.num, .slice A3 M k3, .int .i64 x.pos] 41); have O8 := HO.out.next P.1; (refine appEI rfl (.tmp 68) (.tmp 70) rfl w.heap.size A c i ((es.take i).map ownE1) HLI.out rfl O8 w5.heap.size rfl ({ x with args := x.args.take M }, .slice A3 M k3) P.2.1 P.2.2.1 (by omega) P.2.2.2 ?_); intro A9 c9 w9 hO9 g9 h9 ki9; have S9 := (HS.out.next P.1).grown g9 (by decide) O8.form; have HS9 := Lib.hid S9; have HO9 := Lib.hid hO9; have HOS9 := Lib.hid ((HOS2.out.next P.1).grown g9 ki9 O8.form (by decide)); have e9 := S9.t0.2.2.2.1; have fz9 : w9.frozen? ⟨w.heap.size + 1 + 1, 1, none⟩ = false := (by simp [World.frozen?, S9.ob]); clear P O8 hO9 g9 h9 ki9 S9))
            refine ⟨⟨i + 1, A9, c9, by omega, by omega, rfl, HS9.out.setE A9 (i + 1) c9, ?_, HOS9.out.other HS9.out.ob (by decide) (by decide) _⟩, by simp [intOf]; omega⟩
            rw [take_map_succ ownE1 HX.out, show ownE1 x = { x with args := x.args.take M } from by unfold ownE1; rw [take_min HNX.out HML.out]]
            exact HO9.out.other HS9.out.ob (by decide) (by decide) _
          · -- second
            have q2 : decide ((i : Int) < 600) = false := by simp; omega
            have HN5 := Lib.hid (show (es.take i).map ownE1 = ownEs es from by unfold ownEs; rw [take_cut (i := i) (k := 600) HNE.out (.inr (by omega))])
            have HLE := Lib.hid (show i = (ownEs es).length from by rw [← HN5.out, List.length_map, List.length_take, ← HNE.out]; omega)
            have HO5 := Lib.hid (HN5.out ▸ HO.out)
            have r0 := HS.out.t0.2.2.1
            have r1 := HS.out.t0.2.2.2.1
            have x0 := cell_of_row _ _ 0 _ _ _ HS.out.rb
            have x1 := cell_of_row _ _ 1 _ _ _ HS.out.rb
            have fz : ∀ k, wr.frozen? ⟨w.heap.size + 1, k, none⟩ = false := fun k => by simp [World.frozen?, HS.out.rb]
            clear hHB
            go_wp2
            have hs1 : (wr.setCell ⟨w.heap.size + 1, 0, none⟩ (.slice A0 N c0)).heap[w.heap.size + 1]? = some (.cells #[.slice A0 N c0, .slice none 0 0] 29 (0, 0)) := heap_setCell_same _ _ _ _ _ _ HS.out.rb
            have hs2 : ((wr.setCell ⟨w.heap.size + 1, 0, none⟩ (.slice A0 N c0)).setCell ⟨w.heap.size + 1, 1, none⟩ (.slice A i c)).heap[w.heap.size + 1]? = some (.cells #[.slice A0 N c0, .slice A i c] 29 (0, 0)) := heap_setCell_same _ _ _ _ _ _ hs1
            have z0 := cell_of_row _ _ 0 _ _ _ hs2
            have z1 := cell_of_row _ _ 1 _ _ _ hs2
            refine bodyPost_ret (v := .agg #[.slice A0 N c0, .slice A i c]) (by simp [results, Tryz.results15, go_sem, z0, z1]) rfl ⟨setCell_below (setCell_below HS.out.bel (Nat.le_succ _) _) (Nat.le_succ _) _, A0, c0, A, c, by rw [← HLS.out, ← HLE.out], ?_, ?_⟩
            · exact (HOS2.out.other HS.out.rb (by decide) (by decide) _).other hs1 (by decide) (by decide) _
            · exact (HO5.out.other HS.out.rb (by decide) (by decide) _).other hs1 (by decide) (by decide) _
        · -- third
          have q1 : decide ((i : Int) < (ne : Int)) = false := by simp; omega
          have HN5 := Lib.hid (show (es.take i).map ownE1 = ownEs es from by unfold ownEs; rw [take_cut (i := i) (k := 600) HNE.out (.inl (by omega))])
          have HLE := Lib.hid (show i = (ownEs es).length from by rw [← HN5.out, List.length_map, List.length_take, ← HNE.out]; omega)
          have HO5 := Lib.hid (HN5.out ▸ HO.out)
          have r0 := HS.out.t0.2.2.1
          have r1 := HS.out.t0.2.2.2.1
          have x0 := cell_of_row _ _ 0 _ _ _ HS.out.rb
          have x1 := cell_of_row _ _ 1 _ _ _ HS.out.rb
          have fz : ∀ k, wr.frozen? ⟨w.heap.size + 1, k, none⟩ = false := fun k => by simp [World.frozen?, HS.out.rb]
          clear hHB
          go_wp2
          have hs1 : (wr.setCell ⟨w.heap.size + 1, 0, none⟩ (.slice A0 N c0)).heap[w.heap.size + 1]? = some (.cells #[.slice A0 N c0, .slice none 0 0] 29 (0, 0)) := heap_setCell_same _ _ _ _ _ _ HS.out.rb
          have hs2 : ((wr.setCell ⟨w.heap.size + 1, 0, none⟩ (.slice A0 N c0)).setCell ⟨w.heap.size + 1, 1, none⟩ (.slice A i c)).heap[w.heap.size + 1]? = some (.cells #[.slice A0 N c0, .slice A i c] 29 (0, 0)) := heap_setCell_same _ _ _ _ _ _ hs1
          have z0 := cell_of_row _ _ 0 _ _ _ hs2
          have z1 := cell_of_row _ _ 1 _ _ _ hs2
          refine bodyPost_ret (v := .agg #[.slice A0 N c0, .slice A i c]) (by simp [results, Tryz.results15, go_sem, z0, z1]) rfl ⟨setCell_below (setCell_below HS.out.bel (Nat.le_succ _) _) (Nat.le_succ _) _, A0, c0, A, c, by rw [← HLS.out, ← HLE.out], ?_, ?_⟩
          · exact (HOS2.out.other HS.out.rb (by decide) (by decide) _).other hs1 (by decide) (by decide) _
          · exact (HO5.out.other HS.out.rb (by decide) (by decide) _).other hs1 (by decide) (by decide) _
end Go.Proofs.YthnkeejiocnflaaGreatDoor
