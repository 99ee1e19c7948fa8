/-
  Rows of statements and expressions as they are read; the reference's Ints. Rows of statements and expressions with any integers, as they are read.
-/
import Derived.Test.YtghlnncfigkkaaaGreatDoorQChkL
import Derived.Test.YtghlnncfigkkaaaGreatDoorQParM
import Derived.BigQuiet
namespace Go.Proofs.YtghlnncfigkkaaaGreatDoor
set_option linter.unusedVariables false
set_option linter.unusedSimpArgs false
open Go.RowKit
theorem tflat_nth {α β : Type} (f : α → List β) (k : Nat) (hf : ∀ x, (f x).length = k) : ∀ (l : List α) (i j : Nat) (x : α), l[i]? = some x → j < k → (l.flatMap f)[i * k + j]? = (f x)[j]?
  | [], i, j, x, h, _ => by simp at h
  | y :: l, 0, j, x, h, hj => by
    simp at h
    subst h
    rw [List.flatMap_cons, List.getElem?_append_left (by rw [hf]; omega)]
    simp
  | y :: l, i + 1, j, x, h, hj => by
    have hh : l[i]? = some x := by simpa using h
    have ih := tflat_nth f k hf l i j x hh hj
    have e0 : (i + 1) * k = i * k + k := Nat.succ_mul i k
    rw [List.flatMap_cons, List.getElem?_append_right (by rw [hf]; omega)]
    have e : (i + 1) * k + j - (f y).length = i * k + j := by rw [hf]; omega
    rw [e, ih]
/-- A statement's cells at a place. -/
structure SmAt (w : World) (B b o : Nat) (x : Sm) : Prop where
  c0 : w.cell? ⟨b, o, none⟩ = some (.int .i64 x.kind)
  c1 : w.cell? ⟨b, o + 1, none⟩ = some (.int .i64 x.party)
  c2 : w.cell? ⟨b, o + 2, none⟩ = some (.string x.name)
  c3 : ∃ A c, w.cell? ⟨b, o + 3, none⟩ = some (.slice A x.shape.length c) ∧ Rd w B A (x.shape.map I64)
  c4 : w.cell? ⟨b, o + 4, none⟩ = some (.int .i64 x.expr)
  c5 : w.cell? ⟨b, o + 5, none⟩ = some (.int .i64 x.pos)
structure ExAt (w : World) (B b o : Nat) (x : Ex) : Prop where
  c0 : w.cell? ⟨b, o, none⟩ = some (.int .i64 x.kind)
  c1 : w.cell? ⟨b, o + 1, none⟩ = some (.string x.name)
  c2 : w.cell? ⟨b, o + 2, none⟩ = some (.int .u64 x.num)
  c3 : ∃ A c, w.cell? ⟨b, o + 3, none⟩ = some (.slice A x.args.length c) ∧ Rd w B A (x.args.map I64)
  c4 : w.cell? ⟨b, o + 4, none⟩ = some (.int .i64 x.pos)
/-- The slice reads as these statements, as these expressions. -/
def RdS (w : World) (B : Nat) (A : Option Addr) (l : List Sm) : Prop := l = [] ∨ ∃ b o, A = some ⟨b, o, none⟩ ∧ b < B ∧ ∀ i x, l[i]? = some x → SmAt w B b (o + i * 6) x
def RdE (w : World) (B : Nat) (A : Option Addr) (l : List Ex) : Prop := l = [] ∨ ∃ b o, A = some ⟨b, o, none⟩ ∧ b < B ∧ ∀ i x, l[i]? = some x → ExAt w B b (o + i * 5) x
section
variable {w w' : World} {B B' b o : Nat} {A : Option Addr} {x : Sm} {e : Ex} {l : List Sm} {m : List Ex}
theorem SmAt.keep (h : SmAt w B b o x) (hb : b < B) (hk : ∀ p : Addr, p.block < B → w'.cell? p = w.cell? p) : SmAt w' B b o x := by
  obtain ⟨c0, c1, c2, ⟨A, c, c3, c3'⟩, c4, c5⟩ := h
  exact ⟨(hk ⟨b, _, none⟩ hb).trans c0, (hk ⟨b, _, none⟩ hb).trans c1, (hk ⟨b, _, none⟩ hb).trans c2, ⟨A, c, (hk ⟨b, _, none⟩ hb).trans c3, c3'.keep hk⟩, (hk ⟨b, _, none⟩ hb).trans c4, (hk ⟨b, _, none⟩ hb).trans c5⟩
theorem SmAt.more (h : SmAt w B b o x) (hB : B ≤ B') : SmAt w B' b o x := by
  obtain ⟨c0, c1, c2, ⟨A, c, c3, c3'⟩, c4, c5⟩ := h
  exact ⟨c0, c1, c2, ⟨A, c, c3, c3'.more hB⟩, c4, c5⟩
theorem ExAt.keep (h : ExAt w B b o e) (hb : b < B) (hk : ∀ p : Addr, p.block < B → w'.cell? p = w.cell? p) : ExAt w' B b o e := by
  obtain ⟨c0, c1, c2, ⟨A, c, c3, c3'⟩, c4⟩ := h
  exact ⟨(hk ⟨b, _, none⟩ hb).trans c0, (hk ⟨b, _, none⟩ hb).trans c1, (hk ⟨b, _, none⟩ hb).trans c2, ⟨A, c, (hk ⟨b, _, none⟩ hb).trans c3, c3'.keep hk⟩, (hk ⟨b, _, none⟩ hb).trans c4⟩
theorem ExAt.more (h : ExAt w B b o e) (hB : B ≤ B') : ExAt w B' b o e := by
  obtain ⟨c0, c1, c2, ⟨A, c, c3, c3'⟩, c4⟩ := h
  exact ⟨c0, c1, c2, ⟨A, c, c3, c3'.more hB⟩, c4⟩
theorem RdS.keep (h : RdS w B A l) (hk : ∀ p : Addr, p.block < B → w'.cell? p = w.cell? p) : RdS w' B A l := by
  rcases h with h | ⟨b, o, hA, hb, hc⟩
  · exact .inl h
  · exact .inr ⟨b, o, hA, hb, fun i x hx => (hc i x hx).keep hb hk⟩
theorem RdE.keep (h : RdE w B A m) (hk : ∀ p : Addr, p.block < B → w'.cell? p = w.cell? p) : RdE w' B A m := by
  rcases h with h | ⟨b, o, hA, hb, hc⟩
  · exact .inl h
  · exact .inr ⟨b, o, hA, hb, fun i x hx => (hc i x hx).keep hb hk⟩
theorem RdS.more (h : RdS w B A l) (hB : B ≤ B') : RdS w B' A l := by
  rcases h with h | ⟨b, o, hA, hb, hc⟩
  · exact .inl h
  · exact .inr ⟨b, o, hA, Nat.lt_of_lt_of_le hb hB, fun i x hx => (hc i x hx).more hB⟩
theorem RdE.more (h : RdE w B A m) (hB : B ≤ B') : RdE w B' A m := by
  rcases h with h | ⟨b, o, hA, hb, hc⟩
  · exact .inl h
  · exact .inr ⟨b, o, hA, Nat.lt_of_lt_of_le hb hB, fun i x hx => (hc i x hx).more hB⟩
theorem RdS.below (h : RdS w B A l) (hb : Below B w w') : RdS w' B A l := h.keep fun _ hp => hb.cell hp
theorem RdE.below (h : RdE w B A m) (hb : Below B w w') : RdE w' B A m := h.keep fun _ hp => hb.cell hp
theorem RdS.next (h : RdS w w.heap.size A l) (hb : Below w.heap.size w w') : RdS w' w'.heap.size A l := (h.below hb).more hb.size
theorem RdE.next (h : RdE w w.heap.size A m) (hb : Below w.heap.size w w') : RdE w' w'.heap.size A m := (h.below hb).more hb.size
theorem RdS.at_ (h : RdS w B A l) {i : Nat} (hi : l[i]? = some x) : ∃ b o, A = some ⟨b, o, none⟩ ∧ b < B ∧ SmAt w B b (o + i * 6) x := by
  rcases h with rfl | ⟨b, o, hA, hb, hc⟩
  · simp at hi
  · exact ⟨b, o, hA, hb, hc i x hi⟩
theorem RdE.at_ (h : RdE w B A m) {i : Nat} (hi : m[i]? = some e) : ∃ b o, A = some ⟨b, o, none⟩ ∧ b < B ∧ ExAt w B b (o + i * 5) e := by
  rcases h with rfl | ⟨b, o, hA, hb, hc⟩
  · simp at hi
  · exact ⟨b, o, hA, hb, hc i e hi⟩
theorem trow_cell {w : World} {base k n c : Nat} {T : TypeId} {A : Option Addr} {xs : List Value} (h : w.ownsRow base T k (.slice A n c) n xs) (hn : 0 < n) :
    ∃ g, A = some ⟨g, 0, none⟩ ∧ g < w.heap.size ∧ base ≤ g ∧ ∀ (i : Nat) (v : Value), xs[i]? = some v → w.cell? ⟨g, i, none⟩ = some v := by
  rcases h.2 with ⟨hv, h0⟩ | ⟨g, cap', cur, hv, hb, hg, h1, h2, h3, h4⟩
  · omega
  · injection hv with a b c
    refine ⟨g, a, (Array.getElem?_eq_some_iff.1 hg).1, hb, fun i v hv => ?_⟩
    rw [cell_of_row w g i cur _ (0, 0) hg]
    rw [← h4, List.getElem?_take] at hv
    split at hv
    · simpa using hv
    · cases hv
theorem OwnSX.rd {X : Nat → Prop} {base c : Nat} (h : OwnSX X w base A c l) : RdS w w.heap.size A l := by
  obtain ⟨ms, h1, h2, h3⟩ := h
  by_cases hl : l = []
  · exact .inl hl
  · obtain ⟨g, hA, hg, _, hc⟩ := trow_cell h2 (List.length_pos_iff.2 hl)
    refine .inr ⟨g, 0, hA, hg, fun i x hx => ?_⟩
    subst h1
    rw [List.getElem?_map, Option.map_eq_some_iff] at hx
    obtain ⟨m, hm, rfl⟩ := hx
    have key : ∀ j v, (smCells m)[j]? = some v → j < 6 → w.cell? ⟨g, 0 + i * 6 + j, none⟩ = some v := fun j v hv hj => by
      rw [Nat.zero_add]
      exact hc _ v ((tflat_nth smCells 6 (fun _ => rfl) ms i j m hm hj).trans hv)
    obtain ⟨A', c', e1, e2, _⟩ := h3 m (List.mem_of_getElem? hm)
    exact ⟨key 0 _ rfl (by omega), key 1 _ rfl (by omega), key 2 _ rfl (by omega), ⟨A', c', by rw [← e1]; exact key 3 _ rfl (by omega), e2.rd⟩, key 4 _ rfl (by omega), key 5 _ rfl (by omega)⟩
theorem OwnEX.rd {X : Nat → Prop} {base c : Nat} (h : OwnEX X w base A c m) : RdE w w.heap.size A m := by
  obtain ⟨ms, h1, h2, h3, _⟩ := h
  by_cases hl : m = []
  · exact .inl hl
  · obtain ⟨g, hA, hg, _, hc⟩ := trow_cell h2 (List.length_pos_iff.2 hl)
    refine .inr ⟨g, 0, hA, hg, fun i x hx => ?_⟩
    subst h1
    rw [List.getElem?_map, Option.map_eq_some_iff] at hx
    obtain ⟨m, hm, rfl⟩ := hx
    have key : ∀ j v, (exCells m)[j]? = some v → j < 5 → w.cell? ⟨g, 0 + i * 5 + j, none⟩ = some v := fun j v hv hj => by
      rw [Nat.zero_add]
      exact hc _ v ((tflat_nth exCells 5 (fun _ => rfl) ms i j m hm hj).trans hv)
    obtain ⟨A', c', e1, e2, _⟩ := h3 m (List.mem_of_getElem? hm)
    exact ⟨key 0 _ rfl (by omega), key 1 _ rfl (by omega), key 2 _ rfl (by omega), ⟨A', c', by rw [← e1]; exact key 3 _ rfl (by omega), e2.rd⟩, key 4 _ rfl (by omega)⟩
end
theorem args_small {X : Nat → Prop} {base : Nat} {w : World} {v : Value} {l : List Nat} (h : ArgsV X base w v l) : l.length ≤ 9223372036854775807 := by
  obtain ⟨A, c, h1, h2, _⟩ := h
  rcases h2.form with ⟨_, h⟩ | ⟨g, cur, _, _, _, h3, h4, _⟩
  · have : l = [] := by simpa using h
    rw [this]
    exact Nat.zero_le _
  · rw [List.length_map] at h3
    simp only [maxLen] at h4
    omega
theorem trow_len {w : World} {base k n c : Nat} {T : TypeId} {A : Option Addr} {xs : List Value} (h : w.ownsRow base T k (.slice A n c) n xs) : n ≤ 9223372036854775807 := by
  rcases h.2 with ⟨hv, h0⟩ | ⟨g, cap', cur, hv, hb, hg, h1, h2, h3, h4⟩
  · omega
  · simp only [maxLen] at h2
    omega
theorem OwnSX.small {w : World} {A : Option Addr} {l : List Sm} {X : Nat → Prop} {base c : Nat} (h : OwnSX X w base A c l) : l.length ≤ 9223372036854775807 ∧ ∀ x ∈ l, x.shape.length ≤ 9223372036854775807 := by
  obtain ⟨ms, h1, h2, h3⟩ := h
  refine ⟨trow_len h2, fun x hx => ?_⟩
  subst h1
  obtain ⟨m, hm, rfl⟩ := List.mem_map.1 hx
  exact args_small (h3 m hm)
theorem OwnEX.small {w : World} {A : Option Addr} {m : List Ex} {X : Nat → Prop} {base c : Nat} (h : OwnEX X w base A c m) : m.length ≤ 9223372036854775807 ∧ ∀ x ∈ m, x.args.length ≤ 9223372036854775807 := by
  obtain ⟨ms, h1, h2, h3, _⟩ := h
  refine ⟨trow_len h2, fun x hx => ?_⟩
  subst h1
  obtain ⟨m, hm, rfl⟩ := List.mem_map.1 hx
  exact args_small (h3 m hm)
def IntsRel (n : Nat) (iv : Value) : Prop := ∃ i : Nat, i ≤ n ∧ iv = .int .i64 i
set_option maxRecDepth 100000 in
set_option maxHeartbeats 2000000 in
theorem ints_any (A A' : Option Addr) (n c c' : Nat) (l : List Nat) (w : World) (hn : n = l.length) (hl : n ≤ 9223372036854775807) (h : Rd w w.heap.size A (l.map I64)) (h' : Rd w w.heap.size A' (l.map I64)) :
    Calls Tryz.prog 49 #[.slice A n c, .slice A' n c'] w fun e w' => e = .returned (.bool true) ∧ Below w.heap.size w w' := by
  have HN := Lib.hid hn
  have H := Lib.hid h
  have H' := Lib.hid h'
  clear h h' hn
  go_enter Tryz.func49, Tryz.ntmps49
  go_wp2
  go_loopw [13] (fun iv wr => IntsRel n iv ∧ Below w.heap.size w wr) (fun iv _ => n - (intOf iv).toNat)
  case atStart => exact ⟨⟨0, by omega, rfl⟩, Below.refl _ _⟩
  case round =>
    obtain ⟨⟨i, hi, rfl⟩, hb⟩ := hrel
    by_cases hlt : i < n
    · have ht : (l.map I64)[i]? = some (I64 (l[i]'(by rw [← HN.out]; exact hlt))) := by rw [List.getElem?_map, List.getElem?_eq_getElem (by rw [← HN.out]; exact hlt)]; rfl
      obtain ⟨t, htt⟩ : ∃ t, t = l[i]'(by rw [← HN.out]; exact hlt) := ⟨_, rfl⟩
      rw [← htt] at ht
      obtain ⟨b, o, rfl, hbl, c0⟩ := (H.out.below hb).at_ ht
      obtain ⟨b', o', rfl, hbl', c0'⟩ := (H'.out.below hb).at_ ht
      unfold I64 at c0 c0'
      have i0 : (0 : Int) ≤ (i : Int) := by omega
      have i1 : (i : Int) < (n : Int) := by omega
      have HB := Lib.hid hb
      clear hb ht htt hbl hbl'
      go_wp2_with fail
      go_quiet (fail)
      go_wp2
      exact ⟨⟨⟨i + 1, by omega, rfl⟩, below_drewN HB.out _⟩, by simp [intOf]; omega⟩
    · obtain rfl : i = n := by omega
      have HB := Lib.hid hb
      clear hb
      go_wp2
      go_ret
      exact ⟨rfl, HB.out⟩
end Go.Proofs.YtghlnncfigkkaaaGreatDoor
namespace Go.Proofs.YtghlnncfigkkaaaGreatDoor
set_option linter.unusedVariables false
set_option linter.unusedSimpArgs false
open Go.RowKit
structure SIAt (w : World) (B b o : Nat) (x : SI) : Prop where
  c0 : w.cell? ⟨b, o, none⟩ = some (.int .i64 x.kind)
  c1 : w.cell? ⟨b, o + 1, none⟩ = some (.int .i64 x.party)
  c2 : w.cell? ⟨b, o + 2, none⟩ = some (.string x.name)
  c3 : ∃ A c, w.cell? ⟨b, o + 3, none⟩ = some (.slice A x.shape.length c) ∧ Rd w B A (x.shape.map VI) ∧ x.shape.length ≤ 9223372036854775807 ∧ x.shape.length ≤ c ∧ c ≤ 9223372036854775807
  c4 : w.cell? ⟨b, o + 4, none⟩ = some (.int .i64 x.expr)
  c5 : w.cell? ⟨b, o + 5, none⟩ = some (.int .i64 x.pos)
structure EIAt (w : World) (B b o : Nat) (x : EI) : Prop where
  c0 : w.cell? ⟨b, o, none⟩ = some (.int .i64 x.kind)
  c1 : w.cell? ⟨b, o + 1, none⟩ = some (.string x.name)
  c2 : w.cell? ⟨b, o + 2, none⟩ = some (.int .u64 x.num)
  c3 : ∃ A c, w.cell? ⟨b, o + 3, none⟩ = some (.slice A x.args.length c) ∧ Rd w B A (x.args.map VI) ∧ x.args.length ≤ 9223372036854775807 ∧ x.args.length ≤ c ∧ c ≤ 9223372036854775807
  c4 : w.cell? ⟨b, o + 4, none⟩ = some (.int .i64 x.pos)
def RdSI (w : World) (B : Nat) (A : Option Addr) (l : List SI) : Prop := l = [] ∨ ∃ b o, A = some ⟨b, o, none⟩ ∧ b < B ∧ ∀ i x, l[i]? = some x → SIAt w B b (o + i * 6) x
def RdEI (w : World) (B : Nat) (A : Option Addr) (l : List EI) : Prop := l = [] ∨ ∃ b o, A = some ⟨b, o, none⟩ ∧ b < B ∧ ∀ i x, l[i]? = some x → EIAt w B b (o + i * 5) x
section
variable {w w' : World} {B B' b o : Nat} {A : Option Addr} {x : SI} {e : EI} {l : List SI} {m : List EI}
theorem SIAt.keep (h : SIAt w B b o x) (hb : b < B) (hk : ∀ p : Addr, p.block < B → w'.cell? p = w.cell? p) : SIAt w' B b o x := by
  obtain ⟨c0, c1, c2, ⟨A, c, c3, c3', c3n⟩, c4, c5⟩ := h
  exact ⟨(hk ⟨b, _, none⟩ hb).trans c0, (hk ⟨b, _, none⟩ hb).trans c1, (hk ⟨b, _, none⟩ hb).trans c2, ⟨A, c, (hk ⟨b, _, none⟩ hb).trans c3, c3'.keep hk, c3n⟩, (hk ⟨b, _, none⟩ hb).trans c4, (hk ⟨b, _, none⟩ hb).trans c5⟩
theorem SIAt.more (h : SIAt w B b o x) (hB : B ≤ B') : SIAt w B' b o x := by
  obtain ⟨c0, c1, c2, ⟨A, c, c3, c3', c3n⟩, c4, c5⟩ := h
  exact ⟨c0, c1, c2, ⟨A, c, c3, c3'.more hB, c3n⟩, c4, c5⟩
theorem EIAt.keep (h : EIAt w B b o e) (hb : b < B) (hk : ∀ p : Addr, p.block < B → w'.cell? p = w.cell? p) : EIAt w' B b o e := by
  obtain ⟨c0, c1, c2, ⟨A, c, c3, c3', c3n⟩, c4⟩ := h
  exact ⟨(hk ⟨b, _, none⟩ hb).trans c0, (hk ⟨b, _, none⟩ hb).trans c1, (hk ⟨b, _, none⟩ hb).trans c2, ⟨A, c, (hk ⟨b, _, none⟩ hb).trans c3, c3'.keep hk, c3n⟩, (hk ⟨b, _, none⟩ hb).trans c4⟩
theorem EIAt.more (h : EIAt w B b o e) (hB : B ≤ B') : EIAt w B' b o e := by
  obtain ⟨c0, c1, c2, ⟨A, c, c3, c3', c3n⟩, c4⟩ := h
  exact ⟨c0, c1, c2, ⟨A, c, c3, c3'.more hB, c3n⟩, c4⟩
theorem RdSI.keep (h : RdSI w B A l) (hk : ∀ p : Addr, p.block < B → w'.cell? p = w.cell? p) : RdSI w' B A l := by
  rcases h with h | ⟨b, o, hA, hb, hc⟩
  · exact .inl h
  · exact .inr ⟨b, o, hA, hb, fun i x hx => (hc i x hx).keep hb hk⟩
theorem RdEI.keep (h : RdEI w B A m) (hk : ∀ p : Addr, p.block < B → w'.cell? p = w.cell? p) : RdEI w' B A m := by
  rcases h with h | ⟨b, o, hA, hb, hc⟩
  · exact .inl h
  · exact .inr ⟨b, o, hA, hb, fun i x hx => (hc i x hx).keep hb hk⟩
theorem RdSI.more (h : RdSI w B A l) (hB : B ≤ B') : RdSI w B' A l := by
  rcases h with h | ⟨b, o, hA, hb, hc⟩
  · exact .inl h
  · exact .inr ⟨b, o, hA, Nat.lt_of_lt_of_le hb hB, fun i x hx => (hc i x hx).more hB⟩
theorem RdEI.more (h : RdEI w B A m) (hB : B ≤ B') : RdEI w B' A m := by
  rcases h with h | ⟨b, o, hA, hb, hc⟩
  · exact .inl h
  · exact .inr ⟨b, o, hA, Nat.lt_of_lt_of_le hb hB, fun i x hx => (hc i x hx).more hB⟩
theorem RdSI.below (h : RdSI w B A l) (hb : Below B w w') : RdSI w' B A l := h.keep fun _ hp => hb.cell hp
theorem RdEI.below (h : RdEI w B A m) (hb : Below B w w') : RdEI w' B A m := h.keep fun _ hp => hb.cell hp
theorem RdSI.next (h : RdSI w w.heap.size A l) (hb : Below w.heap.size w w') : RdSI w' w'.heap.size A l := (h.below hb).more hb.size
theorem RdEI.next (h : RdEI w w.heap.size A m) (hb : Below w.heap.size w w') : RdEI w' w'.heap.size A m := (h.below hb).more hb.size
theorem RdSI.at_ (h : RdSI w B A l) {i : Nat} (hi : l[i]? = some x) : ∃ b o, A = some ⟨b, o, none⟩ ∧ b < B ∧ SIAt w B b (o + i * 6) x := by
  rcases h with rfl | ⟨b, o, hA, hb, hc⟩
  · simp at hi
  · exact ⟨b, o, hA, hb, hc i x hi⟩
theorem RdEI.at_ (h : RdEI w B A m) {i : Nat} (hi : m[i]? = some e) : ∃ b o, A = some ⟨b, o, none⟩ ∧ b < B ∧ EIAt w B b (o + i * 5) e := by
  rcases h with rfl | ⟨b, o, hA, hb, hc⟩
  · simp at hi
  · exact ⟨b, o, hA, hb, hc i e hi⟩
end
/-- What the parser made, with integers. -/
def SI.of (x : Sm) : SI := ⟨x.kind, x.party, x.name, x.shape.map Int.ofNat, x.expr, x.pos⟩
def EI.of (x : Ex) : EI := ⟨x.kind, x.name, x.num, x.args.map Int.ofNat, x.pos⟩
theorem vi_of (l : List Nat) : (l.map Int.ofNat).map VI = l.map I64 := by rw [List.map_map]; rfl
theorem own_caps {w : World} {base c : Nat} {e : TypeId} {A : Option Addr} {xs : List Value} (h : Own w base e A c xs) : xs.length ≤ 9223372036854775807 ∧ xs.length ≤ c ∧ c ≤ 9223372036854775807 := by
  rcases h.2 with ⟨hv, hn⟩ | ⟨g, cap', cur, hv, hb, hg, h1, h2, h3, h4⟩
  · injection hv with a b c
    omega
  · injection hv with a b c
    simp only [maxLen] at h2
    omega
theorem ArgsV.int {X : Nat → Prop} {base : Nat} {w : World} {v : Value} {l : List Nat} (h : ArgsV X base w v l) : ∃ A c, v = .slice A (l.map Int.ofNat).length c ∧ Rd w w.heap.size A ((l.map Int.ofNat).map VI) ∧ (l.map Int.ofNat).length ≤ 9223372036854775807 ∧ (l.map Int.ofNat).length ≤ c ∧ c ≤ 9223372036854775807 := by
  obtain ⟨A, c, h1, h2, _⟩ := h
  have hc := own_caps h2
  rw [List.length_map] at hc
  refine ⟨A, c, by rw [List.length_map]; exact h1, by rw [vi_of]; exact h2.rd, ?_⟩
  rw [List.length_map]
  exact hc
theorem OwnSX.int {X : Nat → Prop} {w : World} {base c : Nat} {A : Option Addr} {l : List Sm} (h : OwnSX X w base A c l) : RdSI w w.heap.size A (l.map SI.of) := by
  obtain ⟨ms, h1, h2, h3⟩ := h
  by_cases hl : l = []
  · subst hl
    exact .inl rfl
  · obtain ⟨g, hA, hg, _, hc⟩ := trow_cell h2 (List.length_pos_iff.2 hl)
    refine .inr ⟨g, 0, hA, hg, fun i x hx => ?_⟩
    subst h1
    rw [List.getElem?_map, Option.map_eq_some_iff] at hx
    obtain ⟨y, hy, rfl⟩ := hx
    rw [List.getElem?_map, Option.map_eq_some_iff] at hy
    obtain ⟨m, hm, rfl⟩ := hy
    have key : ∀ j v, (smCells m)[j]? = some v → j < 6 → w.cell? ⟨g, 0 + i * 6 + j, none⟩ = some v := fun j v hv hj => by
      rw [Nat.zero_add]
      exact hc _ v ((tflat_nth smCells 6 (fun _ => rfl) ms i j m hm hj).trans hv)
    obtain ⟨A', c', e1, e2⟩ := (h3 m (List.mem_of_getElem? hm)).int
    exact ⟨key 0 _ rfl (by omega), key 1 _ rfl (by omega), key 2 _ rfl (by omega), ⟨A', c', by rw [show (SI.of m.1).shape = m.1.shape.map Int.ofNat from rfl, ← e1]; exact key 3 _ rfl (by omega), e2⟩, key 4 _ rfl (by omega), key 5 _ rfl (by omega)⟩
theorem OwnEX.int {X : Nat → Prop} {w : World} {base c : Nat} {A : Option Addr} {l : List Ex} (h : OwnEX X w base A c l) : RdEI w w.heap.size A (l.map EI.of) := by
  obtain ⟨ms, h1, h2, h3, _⟩ := h
  by_cases hl : l = []
  · subst hl
    exact .inl rfl
  · obtain ⟨g, hA, hg, _, hc⟩ := trow_cell h2 (List.length_pos_iff.2 hl)
    refine .inr ⟨g, 0, hA, hg, fun i x hx => ?_⟩
    subst h1
    rw [List.getElem?_map, Option.map_eq_some_iff] at hx
    obtain ⟨y, hy, rfl⟩ := hx
    rw [List.getElem?_map, Option.map_eq_some_iff] at hy
    obtain ⟨m, hm, rfl⟩ := hy
    have key : ∀ j v, (exCells m)[j]? = some v → j < 5 → w.cell? ⟨g, 0 + i * 5 + j, none⟩ = some v := fun j v hv hj => by
      rw [Nat.zero_add]
      exact hc _ v ((tflat_nth exCells 5 (fun _ => rfl) ms i j m hm hj).trans hv)
    obtain ⟨A', c', e1, e2⟩ := (h3 m (List.mem_of_getElem? hm)).int
    exact ⟨key 0 _ rfl (by omega), key 1 _ rfl (by omega), key 2 _ rfl (by omega), ⟨A', c', by rw [show (EI.of m.1).args = m.1.args.map Int.ofNat from rfl, ← e1]; exact key 3 _ rfl (by omega), e2⟩, key 4 _ rfl (by omega)⟩
end Go.Proofs.YtghlnncfigkkaaaGreatDoor
