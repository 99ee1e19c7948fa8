/-
  append of bytes, and of words, onto rows of the call's own: the general law at this program's types. Stores: what a store that changes nothing leaves, and what a store leaves of errors and of rows in other blocks.
-/
import Derived.Test.YtghlnncfigkkaaaGreatDoorQNum
import Derived.Test.YtghlnncfigkkaaaGreatDoorQApp
import Derived.Test.YtghlnncfigkkaaaGreatDoorQAsE
import Derived.Test.YtghlnncfigkkaaaGreatDoorRows
import Derived.Deep.OwnRows
namespace Go.Proofs.YtghlnncfigkkaaaGreatDoor
set_option linter.unusedVariables false
set_option linter.unusedSimpArgs false
open Go.RowKit
/-- append of UInt8 onto a row of the call's own. -/
theorem app8_info : (Tryz.prog.info? 5).map (fun i => (i.zero, i.size, i.bytes)) = some (some (.int .u8 0), 1, 1) := by kernel_rfl
theorem app8_ones (l : List UInt8) : ∀ u ∈ l.map V8, u.oneCell' = true := by
  intro v hv
  obtain ⟨x, _, rfl⟩ := List.mem_map.1 hv
  rfl
theorem app8 {w : World} {ops : Array Oper} {rest : List Oper} {o : Oper} {a : Act} {Q : Exit → Act → World → Prop} (hgd : o.guard = none) (s x : Operand)
    (ho : o.op = .call { callee := .builtin .append, args := #[s, x], argTypes := #[162, 162] }) (base : Nat)
    (A : Option Addr) (cap : Nat) (xs : List UInt8) (n : Nat) (hn : xs.length = n) (hs : a.eval s = .slice A n cap) (hown : Own w base 5 A cap (xs.map V8))
    (A2 : Option Addr) (m c B : Nat) (news : List UInt8) (hm : news.length = m) (hx : a.eval x = .slice A2 m c) (hr : Rd w B A2 (news.map V8)) (hnil : A2 = none → m = 0)
    (hbytes : n + m ≤ 211106232532992) (hbase : base ≤ w.heap.size)
    (h : ∀ A' cap' w', Own w' base 5 A' cap' ((xs ++ news).map V8) → w.grownBy w' (blk A) → (blk A' = blk A ∨ blk A' = some w.heap.size) → wpList Tryz.prog ops Q rest (a.put o.dst (.slice A' (n + m) cap')) w') :
    wpList Tryz.prog ops Q (o :: rest) a w := by
  obtain ⟨i0, hi0, hz0, hz1, hz2⟩ := info_parts app8_info
  refine wpList_app hgd s x 162 ho base 5 i0 _ 1 Tryz.underlying162 hi0 hz0 hz1 hz2 rfl A cap (xs.map V8) n (by rw [List.length_map]; exact hn) hs hown A2 m c B (news.map V8) (by rw [List.length_map]; exact hm) hx hr hnil (app8_ones _) (by simp only [maxLen]; omega) (by omega) hbase ?_
  intro A' cap' w' h1 h2 h3
  rw [← List.map_append] at h1
  exact h A' cap' w' h1 h2 h3
theorem app8_step {w : World} {ops : Array Oper} {o : Oper} {a : Act} {K : Act → World → Prop} {Q : Exit → Act → World → Prop} {E : Prop} (hgd : o.guard = none) (s x : Operand)
    (ho : o.op = .call { callee := .builtin .append, args := #[s, x], argTypes := #[162, 162] }) (base : Nat)
    (A : Option Addr) (cap : Nat) (xs : List UInt8) (n : Nat) (hn : xs.length = n) (hs : a.eval s = .slice A n cap) (hown : Own w base 5 A cap (xs.map V8))
    (A2 : Option Addr) (m c B : Nat) (news : List UInt8) (hm : news.length = m) (hx : a.eval x = .slice A2 m c) (hr : Rd w B A2 (news.map V8)) (hnil : A2 = none → m = 0)
    (hbytes : n + m ≤ 211106232532992) (hbase : base ≤ w.heap.size)
    (h : ∀ A' cap' w', Own w' base 5 A' cap' ((xs ++ news).map V8) → w.grownBy w' (blk A) → (blk A' = blk A ∨ blk A' = some w.heap.size) → K (a.put o.dst (.slice A' (n + m) cap')) w') :
    if Region.wanted o (yielded ops a.tmps) = true then Oper.wp Tryz.prog o a w K Q else E := by
  obtain ⟨i0, hi0, hz0, hz1, hz2⟩ := info_parts app8_info
  refine step_app hgd s x 162 ho base 5 i0 _ 1 Tryz.underlying162 hi0 hz0 hz1 hz2 rfl A cap (xs.map V8) n (by rw [List.length_map]; exact hn) hs hown A2 m c B (news.map V8) (by rw [List.length_map]; exact hm) hx hr hnil (app8_ones _) (by simp only [maxLen]; omega) (by omega) hbase ?_
  intro A' cap' w' h1 h2 h3
  rw [← List.map_append] at h1
  exact h A' cap' w' h1 h2 h3
theorem one_app8 (w : World) (x : UInt8) : Rd (w.alloc (.cells #[V8 x] 5)) (w.heap.size + 1) (some ⟨w.heap.size, 0, none⟩) ([x].map V8) := Rd.one _ _ _
end Go.Proofs.YtghlnncfigkkaaaGreatDoor
namespace Go.Proofs.YtghlnncfigkkaaaGreatDoor
set_option linter.unusedVariables false
set_option linter.unusedSimpArgs false
open Go.RowKit
theorem setCell_heap_ne (w : World) (t : Addr) (v : Value) {k : Nat} (h : k ≠ t.block) : (w.setCell t v).heap[k]? = w.heap[k]? := by
  unfold World.setCell
  simp only [Array.getElem?_modify]
  rw [if_neg (fun e => h e.symm)]
theorem setCell_id {w : World} {t : Addr} {v : Value} (h : w.cell? t = some v) : w.setCell t v = w := by
  have hh : (w.setCell t v).heap = w.heap := by
    apply Array.ext_getElem?
    intro k
    by_cases hk : k = t.block
    · subst hk
      unfold World.cell? at h
      unfold World.setCell
      simp only [Array.getElem?_modify, if_true]
      cases hb : w.heap[t.block]? with
      | none => rfl
      | some o =>
        rw [hb] at h
        cases o with
        | cells c e f =>
          simp only [Option.map_some] at h ⊢
          cases hs : t.spot.isSome with
          | true => simp [hs] at h
          | false =>
            simp only [hs, Bool.false_eq_true, if_false] at h ⊢
            obtain ⟨hlt, he⟩ := Array.getElem?_eq_some_iff.1 h
            congr 2
            apply Array.ext_getElem?
            intro j
            rw [Array.getElem?_setIfInBounds]
            split
            · rename_i hj
              subst hj
              exact h.symm
            · rfl
        | _ => simp at h
    · exact setCell_heap_ne w t v hk
  unfold World.setCell at hh ⊢
  simp only at hh
  rw [hh]
theorem IsErr.set {w : World} {t : Addr} {x : Value} {cs : Array Value} {T : TypeId} {fr : Nat × Nat} (hp : w.heap[t.block]? = some (.cells cs T fr)) (hT : T ≠ 192) :
    ∀ {l : List (ByteArray × Int)} {v : Value} {code : Int}, IsErr w v l code → IsErr (w.setCell t x) v l code := by
  intro l
  induction l with
  | nil => intro v code h; exact h
  | cons p r ih =>
    intro v code h
    obtain ⟨a, inner, rfl, hc, hi⟩ := h
    refine ⟨a, inner, rfl, ?_, ih hi⟩
    rw [setCell_heap_ne w t x (fun e => by rw [e, hp] at hc; injection hc with hc; injection hc with _ h2; exact hT h2)]
    exact hc
theorem Own.other {w : World} {base : Nat} {e : TypeId} {A : Option Addr} {cap : Nat} {xs : List Value} (h : Own w base e A cap xs) (t : Addr) (x : Value) (ht : blk A ≠ some t.block) : Own (w.setCell t x) base e A cap xs := by
  refine ⟨h.1, ?_⟩
  rcases h.2 with hv | ⟨g, cap', cur, hv, hb1, hg, r⟩
  · exact .inl hv
  · refine .inr ⟨g, cap', cur, hv, hb1, ?_, r⟩
    have : blk A = some g := by injection hv with a; rw [a]; rfl
    rw [setCell_heap_ne w t x (fun e => ht (by rw [this, e]))]
    exact hg
end Go.Proofs.YtghlnncfigkkaaaGreatDoor
