/-
  append of bytes, and of words, where the operation stands behind a test: the general law at this program's types.
-/
import Derived.Test.YtkhbodjgckgepaaDoorAppB
import Derived.Test.YtkhbodjgckgepaaDoorAppW
namespace Go.Proofs.YtkhbodjgckgepaaDoor
set_option linter.unusedVariables false
set_option linter.unusedSimpArgs false
open Go.RowKit
theorem wpList_wanted {P : Program} {ops : Array Oper} {Q : Exit → Act → World → Prop} {a : Act} {w : World} {rest : List Oper} {o : Oper} (hw : Region.wanted o (yielded ops a.tmps) = true) (h : o.wp P a w (wpList P ops Q rest) Q) : wpList P ops Q (o :: rest) a w := by
  show if Region.wanted o (yielded ops a.tmps) then _ else _
  rw [if_pos hw]
  exact .inl h
theorem app8g {w : World} {ops : Array Oper} {rest : List Oper} {o : Oper} {a : Act} {Q : Exit → Act → World → Prop} (hgd : Region.wanted o (yielded ops a.tmps) = true) (s x : Operand)
    (ho : o.op = .call { callee := .builtin .append, args := #[s, x], argTypes := #[22, 22] }) (base : Nat)
    (A : Option Addr) (cap : Nat) (xs : List UInt8) (n : Nat) (hn : xs.length = n) (hs : a.eval s = .slice A n cap) (hown : Own w base 5 A cap (xs.map V8))
    (A2 : Option Addr) (m c B : Nat) (news : List UInt8) (hm : news.length = m) (hx : a.eval x = .slice A2 m c) (hr : Rd w B A2 (news.map V8)) (hnil : A2 = none → m = 0)
    (hbytes : n + m ≤ 211106232532992) (hbase : base ≤ w.heap.size)
    (h : ∀ A' cap' w', Own w' base 5 A' cap' ((xs ++ news).map V8) → w.grownBy w' (blk A) → (blk A' = blk A ∨ blk A' = some w.heap.size) → wpList Tryd.prog ops Q rest (a.put o.dst (.slice A' (n + m) cap')) w') :
    wpList Tryd.prog ops Q (o :: rest) a w := by
  obtain ⟨i0, hi0, hz0, hz1, hz2⟩ := info_parts app8_info
  refine wpList_wanted hgd (wp_app s x 22 ho base 5 i0 _ 1 Tryd.underlying22 hi0 hz0 hz1 hz2 rfl A cap (xs.map V8) n (by rw [List.length_map]; exact hn) hs hown A2 m c B (news.map V8) (by rw [List.length_map]; exact hm) hx hr hnil (app8_ones _) (by simp only [maxLen]; omega) (by omega) hbase ?_)
  intro A' cap' w' h1 h2 h3
  rw [← List.map_append] at h1
  exact h A' cap' w' h1 h2 h3
end Go.Proofs.YtkhbodjgckgepaaDoor
