/-
  append of bytes, and of words, onto rows of the call's own: the general law at this program's types.
-/
import Derived.Test.YtcefclglmhpdeaaGreatDoorRows
import Derived.Test.YtcefclglmhpdeaaGreatDoorByt
import Derived.Test.YtcefclglmhpdeaaGreatDoorApp
import Derived.Deep.OwnRows
namespace Go.Proofs.YtcefclglmhpdeaaGreatDoor
set_option linter.unusedVariables false
set_option linter.unusedSimpArgs false
open Go.RowKit
/-- append of UInt8 onto a row of the call's own. -/
theorem app8_info : (Tryz.prog.info? 5).map (fun i => (i.zero, i.size, i.bytes)) = some (some (.int .u8 0), 1, 1) := by kernel_rfl
theorem app8_ones (l : List UInt8) : ∀ u ∈ l.map V8, u.oneCell' = true := by
  intro v hv
  obtain ⟨x, _, rfl⟩ := List.mem_map.1 hv
  rfl
theorem app8 {w : World} {ops : Array Oper} {rest : List Oper} {o : Oper} {a : Act} {Q : Exit → Act → World → Prop} (hgd : o.guard = none) (s x : Operand)
    (ho : o.op = .call { callee := .builtin .append, args := #[s, x], argTypes := #[96, 96] }) (base : Nat)
    (A : Option Addr) (cap : Nat) (xs : List UInt8) (n : Nat) (hn : xs.length = n) (hs : a.eval s = .slice A n cap) (hown : Own w base 5 A cap (xs.map V8))
    (A2 : Option Addr) (m c B : Nat) (news : List UInt8) (hm : news.length = m) (hx : a.eval x = .slice A2 m c) (hr : Rd w B A2 (news.map V8)) (hnil : A2 = none → m = 0)
    (hbytes : n + m ≤ 211106232532992) (hbase : base ≤ w.heap.size)
    (h : ∀ A' cap' w', Own w' base 5 A' cap' ((xs ++ news).map V8) → w.grownBy w' (blk A) → (blk A' = blk A ∨ blk A' = some w.heap.size) → wpList Tryz.prog ops Q rest (a.put o.dst (.slice A' (n + m) cap')) w') :
    wpList Tryz.prog ops Q (o :: rest) a w := by
  obtain ⟨i0, hi0, hz0, hz1, hz2⟩ := info_parts app8_info
  refine wpList_app hgd s x 96 ho base 5 i0 _ 1 Tryz.underlying96 hi0 hz0 hz1 hz2 rfl A cap (xs.map V8) n (by rw [List.length_map]; exact hn) hs hown A2 m c B (news.map V8) (by rw [List.length_map]; exact hm) hx hr hnil (app8_ones _) (by simp only [maxLen]; omega) (by omega) hbase ?_
  intro A' cap' w' h1 h2 h3
  rw [← List.map_append] at h1
  exact h A' cap' w' h1 h2 h3
theorem app8_step {w : World} {ops : Array Oper} {o : Oper} {a : Act} {K : Act → World → Prop} {Q : Exit → Act → World → Prop} {E : Prop} (hgd : o.guard = none) (s x : Operand)
    (ho : o.op = .call { callee := .builtin .append, args := #[s, x], argTypes := #[96, 96] }) (base : Nat)
    (A : Option Addr) (cap : Nat) (xs : List UInt8) (n : Nat) (hn : xs.length = n) (hs : a.eval s = .slice A n cap) (hown : Own w base 5 A cap (xs.map V8))
    (A2 : Option Addr) (m c B : Nat) (news : List UInt8) (hm : news.length = m) (hx : a.eval x = .slice A2 m c) (hr : Rd w B A2 (news.map V8)) (hnil : A2 = none → m = 0)
    (hbytes : n + m ≤ 211106232532992) (hbase : base ≤ w.heap.size)
    (h : ∀ A' cap' w', Own w' base 5 A' cap' ((xs ++ news).map V8) → w.grownBy w' (blk A) → (blk A' = blk A ∨ blk A' = some w.heap.size) → K (a.put o.dst (.slice A' (n + m) cap')) w') :
    if Region.wanted o (yielded ops a.tmps) = true then Oper.wp Tryz.prog o a w K Q else E := by
  obtain ⟨i0, hi0, hz0, hz1, hz2⟩ := info_parts app8_info
  refine step_app hgd s x 96 ho base 5 i0 _ 1 Tryz.underlying96 hi0 hz0 hz1 hz2 rfl A cap (xs.map V8) n (by rw [List.length_map]; exact hn) hs hown A2 m c B (news.map V8) (by rw [List.length_map]; exact hm) hx hr hnil (app8_ones _) (by simp only [maxLen]; omega) (by omega) hbase ?_
  intro A' cap' w' h1 h2 h3
  rw [← List.map_append] at h1
  exact h A' cap' w' h1 h2 h3
theorem one_app8 (w : World) (x : UInt8) : Rd (w.alloc (.cells #[V8 x] 5)) (w.heap.size + 1) (some ⟨w.heap.size, 0, none⟩) ([x].map V8) := Rd.one _ _ _
end Go.Proofs.YtcefclglmhpdeaaGreatDoor
